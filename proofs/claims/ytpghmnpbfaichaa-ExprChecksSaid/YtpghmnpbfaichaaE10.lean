/- The queries of nodes. -/
import Derived.Test.YtpghmnpbfaichaaE7
namespace Go.Pl
open Go.Sx
theorem qsN_step (out : List Qy) (x : Nd) (r : List Nd) : qsN out (x :: r) = if qryN x && !decide ((x.op, x.a, x.b) ∈ out) then qsN (out ++ [(x.op, x.a, x.b)]) r else qsN out r := rfl
noncomputable def qyL (cs : List Value) : List Value := qsC (qsN [] (unNds cs))
noncomputable def qyN (cs : List Value) : Nat := hide (qsN [] (unNds cs)).length
end Go.Pl
namespace Go.Proofs.Ytpghmnpbfaichaa
open Go.Sx Go.Pl Go.RowKit
theorem qsS (oa : Option Addr) (n cap : Nat) : ((xgo Try.prog X (bodyOf Try.f38) 39 K9 [] 60 [] ((.nil)) [.at []] ⟨argsTm 0 [.slice oa n cap], []⟩ [] []).map (trims [12, 11, 10, 3, 2])) =
  some [Leaf2.mk [] [] [It.at [(0 : Nat), (1 : Nat), (0 : Nat), (1 : Nat), (1 : Nat)], It.blk (0 : Nat), It.at [(1 : Nat), (1 : Nat), (1 : Nat)]] (St.mk [((12 : Nat), SV.v (Value.int IntKind.i64 (0 : Int))), ((11 : Nat), SV.v (Value.int IntKind.i64 (↑n : Int))), ((10 : Nat), SV.v (Value.slice oa n cap)), ((3 : Nat), SV.v (Value.slice none (0 : Nat) (0 : Nat))), ((2 : Nat), SV.v (Value.slice none (0 : Nat) (0 : Nat)))] [])]
  := by kernel_rfl

theorem qs0c (ad : Addr) (n cap k M : Nat) (op a b z0 z1 z2 z3 : Int) (kt : List It) : ((xgo Try.prog X (bodyOf Try.f38) 39 K9 [] 60 [.t, .ld (.agg [.v (.int .i64 op), .v (.int .i64 a), .v (.int .i64 b), .v (.int .u64 z0), .v (.int .u64 z1), .v (.int .u64 z2), .v (.int .u64 z3)]), .ld (.v (.tuple #[.iface 102 (.agg #[.int .u64 z0, .int .u64 z1, .int .u64 z2, .int .u64 z3]), .bool true])), .f, .f] ((.nil)) (.at [0,0,1,0,1,1] :: .rnd [0,0,1,0,1,1] (M + 1) :: kt) ⟨[(12, .v (.int .i64 (k : Int))), (11, .v (.int .i64 (n : Int))), (10, .v (.slice (some ad) n cap)), (3, .v (.slice none 0 0)), (2, .v (.slice none 0 0))], []⟩ [] []).map (trims [12, 11, 10, 3, 2])) =
  some [Leaf2.mk [] [fun _ => decide ((↑k : Int) < (↑n : Int)) = true,
    fun _ => (0 : Int) ≤ (↑k : Int) ∧ (↑k : Int) < (↑n : Int),
    fun _ => true = true, fun M => MCells (fun a => M a) (some (if Int.toNat (↑k : Int) * (7 : Nat) = (0 : Nat) then ad else Addr.mk ad.1 (ad.2 + Int.toNat (↑k : Int) * (7 : Nat)) none)) [Value.int IntKind.i64 op, Value.int IntKind.i64 a, Value.int IntKind.i64 b, Value.int IntKind.u64 z0, Value.int IntKind.u64 z1, Value.int IntKind.u64 z2, Value.int IntKind.u64 z3],
    fun _ => (0 : Nat) + (7 : Nat) ≤ (7 : Nat),
    fun _ => True,
    fun _ => rdV op a b (Value.int IntKind.u64 z0) (Value.int IntKind.u64 z1) (Value.int IntKind.u64 z2) (Value.int IntKind.u64 z3) = Value.tuple (Array.mk [Value.iface (102 : Nat) (Value.agg (Array.mk [Value.int IntKind.u64 z0, Value.int IntKind.u64 z1, Value.int IntKind.u64 z2, Value.int IntKind.u64 z3])), Value.bool true]),
    fun _ => (3 : Nat) ≤ (3 : Nat),
    fun _ => false = false,
    fun _ => false = false] (It.rnd [(0 : Nat), (0 : Nat), (1 : Nat), (0 : Nat), (1 : Nat), (1 : Nat)] (M + (1 : Nat)) :: kt) (St.mk [((12 : Nat), SV.v (Value.int IntKind.i64 (IntKind.wrap IntKind.i64 ((↑k : Int) + (1 : Int))))), ((11 : Nat), SV.v (Value.int IntKind.i64 (↑n : Int))), ((10 : Nat), SV.v (Value.slice (some ad) n cap)), ((3 : Nat), SV.v (Value.slice none (0 : Nat) (0 : Nat))), ((2 : Nat), SV.v (Value.slice none (0 : Nat) (0 : Nat)))] [HO.cells [SV.v (Value.int IntKind.i64 op), SV.v (Value.int IntKind.i64 a), SV.v (Value.int IntKind.i64 b), SV.v (Value.int IntKind.u64 z0), SV.v (Value.int IntKind.u64 z1), SV.v (Value.int IntKind.u64 z2), SV.v (Value.int IntKind.u64 z3)] (43 : Nat), HO.cells [SV.v (Value.int IntKind.i64 (0 : Int)), SV.v (Value.int IntKind.i64 (0 : Int)), SV.v (Value.int IntKind.i64 (0 : Int))] (103 : Nat)])]
  := by kernel_rfl

theorem qs1c (ad : Addr) (n cap k M : Nat) (op a b z0 z1 z2 z3 : Int) (m : Nat) (ds : List Value) (kt : List It) : ((xgo Try.prog X (bodyOf Try.f38) 39 K9 [] 60 [.t, .ld (.agg [.v (.int .i64 op), .v (.int .i64 a), .v (.int .i64 b), .v (.int .u64 z0), .v (.int .u64 z1), .v (.int .u64 z2), .v (.int .u64 z3)]), .ld (.v (.tuple #[.iface 102 (.agg #[.int .u64 z0, .int .u64 z1, .int .u64 z2, .int .u64 z3]), .bool true])), .f, .f] ((.nil)) (.at [0,0,1,0,1,1] :: .rnd [0,0,1,0,1,1] (M + 1) :: kt) ⟨[(12, .v (.int .i64 (k : Int))), (11, .v (.int .i64 (n : Int))), (10, .v (.slice (some ad) n cap)), (3, .o 0), (2, .v (.slice none 0 0))], [.row 63 3 m (mapv ds)]⟩ [] []).map (trims [12, 11, 10, 3, 2])) =
  some [Leaf2.mk [] [fun _ => decide ((↑k : Int) < (↑n : Int)) = true,
    fun _ => (0 : Int) ≤ (↑k : Int) ∧ (↑k : Int) < (↑n : Int),
    fun _ => true = true, fun M => MCells (fun a => M a) (some (if Int.toNat (↑k : Int) * (7 : Nat) = (0 : Nat) then ad else Addr.mk ad.1 (ad.2 + Int.toNat (↑k : Int) * (7 : Nat)) none)) [Value.int IntKind.i64 op, Value.int IntKind.i64 a, Value.int IntKind.i64 b, Value.int IntKind.u64 z0, Value.int IntKind.u64 z1, Value.int IntKind.u64 z2, Value.int IntKind.u64 z3],
    fun _ => (0 : Nat) + (7 : Nat) ≤ (7 : Nat),
    fun _ => True,
    fun _ => rdV op a b (Value.int IntKind.u64 z0) (Value.int IntKind.u64 z1) (Value.int IntKind.u64 z2) (Value.int IntKind.u64 z3) = Value.tuple (Array.mk [Value.iface (102 : Nat) (Value.agg (Array.mk [Value.int IntKind.u64 z0, Value.int IntKind.u64 z1, Value.int IntKind.u64 z2, Value.int IntKind.u64 z3])), Value.bool true]),
    fun _ => (3 : Nat) ≤ (3 : Nat),
    fun _ => false = false,
    fun _ => false = false] (It.rnd [(0 : Nat), (0 : Nat), (1 : Nat), (0 : Nat), (1 : Nat), (1 : Nat)] (M + (1 : Nat)) :: kt) (St.mk [((12 : Nat), SV.v (Value.int IntKind.i64 (IntKind.wrap IntKind.i64 ((↑k : Int) + (1 : Int))))), ((11 : Nat), SV.v (Value.int IntKind.i64 (↑n : Int))), ((10 : Nat), SV.v (Value.slice (some ad) n cap)), ((3 : Nat), SV.o (0 : Nat)), ((2 : Nat), SV.v (Value.slice none (0 : Nat) (0 : Nat)))] [HO.row (63 : Nat) (3 : Nat) m (mapv ds), HO.cells [SV.v (Value.int IntKind.i64 op), SV.v (Value.int IntKind.i64 a), SV.v (Value.int IntKind.i64 b), SV.v (Value.int IntKind.u64 z0), SV.v (Value.int IntKind.u64 z1), SV.v (Value.int IntKind.u64 z2), SV.v (Value.int IntKind.u64 z3)] (43 : Nat), HO.cells [SV.v (Value.int IntKind.i64 (0 : Int)), SV.v (Value.int IntKind.i64 (0 : Int)), SV.v (Value.int IntKind.i64 (0 : Int))] (103 : Nat)])]
  := by kernel_rfl

theorem qs0n (ad : Addr) (n cap k M : Nat) (op a b z0 z1 z2 z3 : Int) (kt : List It) : ((xgo Try.prog X (bodyOf Try.f38) 39 K9 [] 60 [.t, .ld (.agg [.v (.int .i64 op), .v (.int .i64 a), .v (.int .i64 b), .v (.int .u64 z0), .v (.int .u64 z1), .v (.int .u64 z2), .v (.int .u64 z3)]), .ld (.v (.tuple #[.iface 129 (.agg #[.int .i64 a]), .bool true])), .f, .f] ((.nil)) (.at [0,0,1,0,1,1] :: .rnd [0,0,1,0,1,1] (M + 1) :: kt) ⟨[(12, .v (.int .i64 (k : Int))), (11, .v (.int .i64 (n : Int))), (10, .v (.slice (some ad) n cap)), (3, .v (.slice none 0 0)), (2, .v (.slice none 0 0))], []⟩ [] []).map (trims [12, 11, 10, 3, 2])) =
  some [Leaf2.mk [] [fun _ => decide ((↑k : Int) < (↑n : Int)) = true,
    fun _ => (0 : Int) ≤ (↑k : Int) ∧ (↑k : Int) < (↑n : Int),
    fun _ => true = true, fun M => MCells (fun a => M a) (some (if Int.toNat (↑k : Int) * (7 : Nat) = (0 : Nat) then ad else Addr.mk ad.1 (ad.2 + Int.toNat (↑k : Int) * (7 : Nat)) none)) [Value.int IntKind.i64 op, Value.int IntKind.i64 a, Value.int IntKind.i64 b, Value.int IntKind.u64 z0, Value.int IntKind.u64 z1, Value.int IntKind.u64 z2, Value.int IntKind.u64 z3],
    fun _ => (0 : Nat) + (7 : Nat) ≤ (7 : Nat),
    fun _ => True,
    fun _ => rdV op a b (Value.int IntKind.u64 z0) (Value.int IntKind.u64 z1) (Value.int IntKind.u64 z2) (Value.int IntKind.u64 z3) = Value.tuple (Array.mk [Value.iface (129 : Nat) (Value.agg (Array.mk [Value.int IntKind.i64 a])), Value.bool true]),
    fun _ => (3 : Nat) ≤ (3 : Nat),
    fun _ => false = false,
    fun _ => false = false] (It.rnd [(0 : Nat), (0 : Nat), (1 : Nat), (0 : Nat), (1 : Nat), (1 : Nat)] (M + (1 : Nat)) :: kt) (St.mk [((12 : Nat), SV.v (Value.int IntKind.i64 (IntKind.wrap IntKind.i64 ((↑k : Int) + (1 : Int))))), ((11 : Nat), SV.v (Value.int IntKind.i64 (↑n : Int))), ((10 : Nat), SV.v (Value.slice (some ad) n cap)), ((3 : Nat), SV.v (Value.slice none (0 : Nat) (0 : Nat))), ((2 : Nat), SV.v (Value.slice none (0 : Nat) (0 : Nat)))] [HO.cells [SV.v (Value.int IntKind.i64 op), SV.v (Value.int IntKind.i64 a), SV.v (Value.int IntKind.i64 b), SV.v (Value.int IntKind.u64 z0), SV.v (Value.int IntKind.u64 z1), SV.v (Value.int IntKind.u64 z2), SV.v (Value.int IntKind.u64 z3)] (43 : Nat), HO.cells [SV.v (Value.int IntKind.i64 (0 : Int)), SV.v (Value.int IntKind.i64 (0 : Int)), SV.v (Value.int IntKind.i64 (0 : Int))] (103 : Nat)])]
  := by kernel_rfl

theorem qs1n (ad : Addr) (n cap k M : Nat) (op a b z0 z1 z2 z3 : Int) (m : Nat) (ds : List Value) (kt : List It) : ((xgo Try.prog X (bodyOf Try.f38) 39 K9 [] 60 [.t, .ld (.agg [.v (.int .i64 op), .v (.int .i64 a), .v (.int .i64 b), .v (.int .u64 z0), .v (.int .u64 z1), .v (.int .u64 z2), .v (.int .u64 z3)]), .ld (.v (.tuple #[.iface 129 (.agg #[.int .i64 a]), .bool true])), .f, .f] ((.nil)) (.at [0,0,1,0,1,1] :: .rnd [0,0,1,0,1,1] (M + 1) :: kt) ⟨[(12, .v (.int .i64 (k : Int))), (11, .v (.int .i64 (n : Int))), (10, .v (.slice (some ad) n cap)), (3, .o 0), (2, .v (.slice none 0 0))], [.row 63 3 m (mapv ds)]⟩ [] []).map (trims [12, 11, 10, 3, 2])) =
  some [Leaf2.mk [] [fun _ => decide ((↑k : Int) < (↑n : Int)) = true,
    fun _ => (0 : Int) ≤ (↑k : Int) ∧ (↑k : Int) < (↑n : Int),
    fun _ => true = true, fun M => MCells (fun a => M a) (some (if Int.toNat (↑k : Int) * (7 : Nat) = (0 : Nat) then ad else Addr.mk ad.1 (ad.2 + Int.toNat (↑k : Int) * (7 : Nat)) none)) [Value.int IntKind.i64 op, Value.int IntKind.i64 a, Value.int IntKind.i64 b, Value.int IntKind.u64 z0, Value.int IntKind.u64 z1, Value.int IntKind.u64 z2, Value.int IntKind.u64 z3],
    fun _ => (0 : Nat) + (7 : Nat) ≤ (7 : Nat),
    fun _ => True,
    fun _ => rdV op a b (Value.int IntKind.u64 z0) (Value.int IntKind.u64 z1) (Value.int IntKind.u64 z2) (Value.int IntKind.u64 z3) = Value.tuple (Array.mk [Value.iface (129 : Nat) (Value.agg (Array.mk [Value.int IntKind.i64 a])), Value.bool true]),
    fun _ => (3 : Nat) ≤ (3 : Nat),
    fun _ => false = false,
    fun _ => false = false] (It.rnd [(0 : Nat), (0 : Nat), (1 : Nat), (0 : Nat), (1 : Nat), (1 : Nat)] (M + (1 : Nat)) :: kt) (St.mk [((12 : Nat), SV.v (Value.int IntKind.i64 (IntKind.wrap IntKind.i64 ((↑k : Int) + (1 : Int))))), ((11 : Nat), SV.v (Value.int IntKind.i64 (↑n : Int))), ((10 : Nat), SV.v (Value.slice (some ad) n cap)), ((3 : Nat), SV.o (0 : Nat)), ((2 : Nat), SV.v (Value.slice none (0 : Nat) (0 : Nat)))] [HO.row (63 : Nat) (3 : Nat) m (mapv ds), HO.cells [SV.v (Value.int IntKind.i64 op), SV.v (Value.int IntKind.i64 a), SV.v (Value.int IntKind.i64 b), SV.v (Value.int IntKind.u64 z0), SV.v (Value.int IntKind.u64 z1), SV.v (Value.int IntKind.u64 z2), SV.v (Value.int IntKind.u64 z3)] (43 : Nat), HO.cells [SV.v (Value.int IntKind.i64 (0 : Int)), SV.v (Value.int IntKind.i64 (0 : Int)), SV.v (Value.int IntKind.i64 (0 : Int))] (103 : Nat)])]
  := by kernel_rfl

theorem qs0a (ad : Addr) (n cap k M : Nat) (op a b z0 z1 z2 z3 : Int) (kt : List It) : ((xgo Try.prog X (bodyOf Try.f38) 39 K9 [] 60 [.t, .ld (.agg [.v (.int .i64 op), .v (.int .i64 a), .v (.int .i64 b), .v (.int .u64 z0), .v (.int .u64 z1), .v (.int .u64 z2), .v (.int .u64 z3)]), .ld (.v (.tuple #[.iface 131 (.agg #[.int .i64 a, .int .i64 b]), .bool true])), .f, .f] ((.nil)) (.at [0,0,1,0,1,1] :: .rnd [0,0,1,0,1,1] (M + 1) :: kt) ⟨[(12, .v (.int .i64 (k : Int))), (11, .v (.int .i64 (n : Int))), (10, .v (.slice (some ad) n cap)), (3, .v (.slice none 0 0)), (2, .v (.slice none 0 0))], []⟩ [] []).map (trims [12, 11, 10, 3, 2])) =
  some [Leaf2.mk [] [fun _ => decide ((↑k : Int) < (↑n : Int)) = true,
    fun _ => (0 : Int) ≤ (↑k : Int) ∧ (↑k : Int) < (↑n : Int),
    fun _ => true = true, fun M => MCells (fun a => M a) (some (if Int.toNat (↑k : Int) * (7 : Nat) = (0 : Nat) then ad else Addr.mk ad.1 (ad.2 + Int.toNat (↑k : Int) * (7 : Nat)) none)) [Value.int IntKind.i64 op, Value.int IntKind.i64 a, Value.int IntKind.i64 b, Value.int IntKind.u64 z0, Value.int IntKind.u64 z1, Value.int IntKind.u64 z2, Value.int IntKind.u64 z3],
    fun _ => (0 : Nat) + (7 : Nat) ≤ (7 : Nat),
    fun _ => True,
    fun _ => rdV op a b (Value.int IntKind.u64 z0) (Value.int IntKind.u64 z1) (Value.int IntKind.u64 z2) (Value.int IntKind.u64 z3) = Value.tuple (Array.mk [Value.iface (131 : Nat) (Value.agg (Array.mk [Value.int IntKind.i64 a, Value.int IntKind.i64 b])), Value.bool true]),
    fun _ => (3 : Nat) ≤ (3 : Nat),
    fun _ => false = false,
    fun _ => false = false] (It.rnd [(0 : Nat), (0 : Nat), (1 : Nat), (0 : Nat), (1 : Nat), (1 : Nat)] (M + (1 : Nat)) :: kt) (St.mk [((12 : Nat), SV.v (Value.int IntKind.i64 (IntKind.wrap IntKind.i64 ((↑k : Int) + (1 : Int))))), ((11 : Nat), SV.v (Value.int IntKind.i64 (↑n : Int))), ((10 : Nat), SV.v (Value.slice (some ad) n cap)), ((3 : Nat), SV.v (Value.slice none (0 : Nat) (0 : Nat))), ((2 : Nat), SV.v (Value.slice none (0 : Nat) (0 : Nat)))] [HO.cells [SV.v (Value.int IntKind.i64 op), SV.v (Value.int IntKind.i64 a), SV.v (Value.int IntKind.i64 b), SV.v (Value.int IntKind.u64 z0), SV.v (Value.int IntKind.u64 z1), SV.v (Value.int IntKind.u64 z2), SV.v (Value.int IntKind.u64 z3)] (43 : Nat), HO.cells [SV.v (Value.int IntKind.i64 (0 : Int)), SV.v (Value.int IntKind.i64 (0 : Int)), SV.v (Value.int IntKind.i64 (0 : Int))] (103 : Nat)])]
  := by kernel_rfl

theorem qs1a (ad : Addr) (n cap k M : Nat) (op a b z0 z1 z2 z3 : Int) (m : Nat) (ds : List Value) (kt : List It) : ((xgo Try.prog X (bodyOf Try.f38) 39 K9 [] 60 [.t, .ld (.agg [.v (.int .i64 op), .v (.int .i64 a), .v (.int .i64 b), .v (.int .u64 z0), .v (.int .u64 z1), .v (.int .u64 z2), .v (.int .u64 z3)]), .ld (.v (.tuple #[.iface 131 (.agg #[.int .i64 a, .int .i64 b]), .bool true])), .f, .f] ((.nil)) (.at [0,0,1,0,1,1] :: .rnd [0,0,1,0,1,1] (M + 1) :: kt) ⟨[(12, .v (.int .i64 (k : Int))), (11, .v (.int .i64 (n : Int))), (10, .v (.slice (some ad) n cap)), (3, .o 0), (2, .v (.slice none 0 0))], [.row 63 3 m (mapv ds)]⟩ [] []).map (trims [12, 11, 10, 3, 2])) =
  some [Leaf2.mk [] [fun _ => decide ((↑k : Int) < (↑n : Int)) = true,
    fun _ => (0 : Int) ≤ (↑k : Int) ∧ (↑k : Int) < (↑n : Int),
    fun _ => true = true, fun M => MCells (fun a => M a) (some (if Int.toNat (↑k : Int) * (7 : Nat) = (0 : Nat) then ad else Addr.mk ad.1 (ad.2 + Int.toNat (↑k : Int) * (7 : Nat)) none)) [Value.int IntKind.i64 op, Value.int IntKind.i64 a, Value.int IntKind.i64 b, Value.int IntKind.u64 z0, Value.int IntKind.u64 z1, Value.int IntKind.u64 z2, Value.int IntKind.u64 z3],
    fun _ => (0 : Nat) + (7 : Nat) ≤ (7 : Nat),
    fun _ => True,
    fun _ => rdV op a b (Value.int IntKind.u64 z0) (Value.int IntKind.u64 z1) (Value.int IntKind.u64 z2) (Value.int IntKind.u64 z3) = Value.tuple (Array.mk [Value.iface (131 : Nat) (Value.agg (Array.mk [Value.int IntKind.i64 a, Value.int IntKind.i64 b])), Value.bool true]),
    fun _ => (3 : Nat) ≤ (3 : Nat),
    fun _ => false = false,
    fun _ => false = false] (It.rnd [(0 : Nat), (0 : Nat), (1 : Nat), (0 : Nat), (1 : Nat), (1 : Nat)] (M + (1 : Nat)) :: kt) (St.mk [((12 : Nat), SV.v (Value.int IntKind.i64 (IntKind.wrap IntKind.i64 ((↑k : Int) + (1 : Int))))), ((11 : Nat), SV.v (Value.int IntKind.i64 (↑n : Int))), ((10 : Nat), SV.v (Value.slice (some ad) n cap)), ((3 : Nat), SV.o (0 : Nat)), ((2 : Nat), SV.v (Value.slice none (0 : Nat) (0 : Nat)))] [HO.row (63 : Nat) (3 : Nat) m (mapv ds), HO.cells [SV.v (Value.int IntKind.i64 op), SV.v (Value.int IntKind.i64 a), SV.v (Value.int IntKind.i64 b), SV.v (Value.int IntKind.u64 z0), SV.v (Value.int IntKind.u64 z1), SV.v (Value.int IntKind.u64 z2), SV.v (Value.int IntKind.u64 z3)] (43 : Nat), HO.cells [SV.v (Value.int IntKind.i64 (0 : Int)), SV.v (Value.int IntKind.i64 (0 : Int)), SV.v (Value.int IntKind.i64 (0 : Int))] (103 : Nat)])]
  := by kernel_rfl

theorem qs0m (ad : Addr) (n cap k M : Nat) (op a b z0 z1 z2 z3 : Int) (kt : List It) : ((xgo Try.prog X (bodyOf Try.f38) 39 K9 [] 60 [.t, .ld (.agg [.v (.int .i64 op), .v (.int .i64 a), .v (.int .i64 b), .v (.int .u64 z0), .v (.int .u64 z1), .v (.int .u64 z2), .v (.int .u64 z3)]), .ld (.v (.tuple #[.iface 132 (.agg #[.int .i64 a, .int .i64 b]), .bool true])), .f, .f] ((.nil)) (.at [0,0,1,0,1,1] :: .rnd [0,0,1,0,1,1] (M + 1) :: kt) ⟨[(12, .v (.int .i64 (k : Int))), (11, .v (.int .i64 (n : Int))), (10, .v (.slice (some ad) n cap)), (3, .v (.slice none 0 0)), (2, .v (.slice none 0 0))], []⟩ [] []).map (trims [12, 11, 10, 3, 2])) =
  some [Leaf2.mk [] [fun _ => decide ((↑k : Int) < (↑n : Int)) = true,
    fun _ => (0 : Int) ≤ (↑k : Int) ∧ (↑k : Int) < (↑n : Int),
    fun _ => true = true, fun M => MCells (fun a => M a) (some (if Int.toNat (↑k : Int) * (7 : Nat) = (0 : Nat) then ad else Addr.mk ad.1 (ad.2 + Int.toNat (↑k : Int) * (7 : Nat)) none)) [Value.int IntKind.i64 op, Value.int IntKind.i64 a, Value.int IntKind.i64 b, Value.int IntKind.u64 z0, Value.int IntKind.u64 z1, Value.int IntKind.u64 z2, Value.int IntKind.u64 z3],
    fun _ => (0 : Nat) + (7 : Nat) ≤ (7 : Nat),
    fun _ => True,
    fun _ => rdV op a b (Value.int IntKind.u64 z0) (Value.int IntKind.u64 z1) (Value.int IntKind.u64 z2) (Value.int IntKind.u64 z3) = Value.tuple (Array.mk [Value.iface (132 : Nat) (Value.agg (Array.mk [Value.int IntKind.i64 a, Value.int IntKind.i64 b])), Value.bool true]),
    fun _ => (3 : Nat) ≤ (3 : Nat),
    fun _ => false = false,
    fun _ => false = false] (It.rnd [(0 : Nat), (0 : Nat), (1 : Nat), (0 : Nat), (1 : Nat), (1 : Nat)] (M + (1 : Nat)) :: kt) (St.mk [((12 : Nat), SV.v (Value.int IntKind.i64 (IntKind.wrap IntKind.i64 ((↑k : Int) + (1 : Int))))), ((11 : Nat), SV.v (Value.int IntKind.i64 (↑n : Int))), ((10 : Nat), SV.v (Value.slice (some ad) n cap)), ((3 : Nat), SV.v (Value.slice none (0 : Nat) (0 : Nat))), ((2 : Nat), SV.v (Value.slice none (0 : Nat) (0 : Nat)))] [HO.cells [SV.v (Value.int IntKind.i64 op), SV.v (Value.int IntKind.i64 a), SV.v (Value.int IntKind.i64 b), SV.v (Value.int IntKind.u64 z0), SV.v (Value.int IntKind.u64 z1), SV.v (Value.int IntKind.u64 z2), SV.v (Value.int IntKind.u64 z3)] (43 : Nat), HO.cells [SV.v (Value.int IntKind.i64 (0 : Int)), SV.v (Value.int IntKind.i64 (0 : Int)), SV.v (Value.int IntKind.i64 (0 : Int))] (103 : Nat)])]
  := by kernel_rfl

theorem qs1m (ad : Addr) (n cap k M : Nat) (op a b z0 z1 z2 z3 : Int) (m : Nat) (ds : List Value) (kt : List It) : ((xgo Try.prog X (bodyOf Try.f38) 39 K9 [] 60 [.t, .ld (.agg [.v (.int .i64 op), .v (.int .i64 a), .v (.int .i64 b), .v (.int .u64 z0), .v (.int .u64 z1), .v (.int .u64 z2), .v (.int .u64 z3)]), .ld (.v (.tuple #[.iface 132 (.agg #[.int .i64 a, .int .i64 b]), .bool true])), .f, .f] ((.nil)) (.at [0,0,1,0,1,1] :: .rnd [0,0,1,0,1,1] (M + 1) :: kt) ⟨[(12, .v (.int .i64 (k : Int))), (11, .v (.int .i64 (n : Int))), (10, .v (.slice (some ad) n cap)), (3, .o 0), (2, .v (.slice none 0 0))], [.row 63 3 m (mapv ds)]⟩ [] []).map (trims [12, 11, 10, 3, 2])) =
  some [Leaf2.mk [] [fun _ => decide ((↑k : Int) < (↑n : Int)) = true,
    fun _ => (0 : Int) ≤ (↑k : Int) ∧ (↑k : Int) < (↑n : Int),
    fun _ => true = true, fun M => MCells (fun a => M a) (some (if Int.toNat (↑k : Int) * (7 : Nat) = (0 : Nat) then ad else Addr.mk ad.1 (ad.2 + Int.toNat (↑k : Int) * (7 : Nat)) none)) [Value.int IntKind.i64 op, Value.int IntKind.i64 a, Value.int IntKind.i64 b, Value.int IntKind.u64 z0, Value.int IntKind.u64 z1, Value.int IntKind.u64 z2, Value.int IntKind.u64 z3],
    fun _ => (0 : Nat) + (7 : Nat) ≤ (7 : Nat),
    fun _ => True,
    fun _ => rdV op a b (Value.int IntKind.u64 z0) (Value.int IntKind.u64 z1) (Value.int IntKind.u64 z2) (Value.int IntKind.u64 z3) = Value.tuple (Array.mk [Value.iface (132 : Nat) (Value.agg (Array.mk [Value.int IntKind.i64 a, Value.int IntKind.i64 b])), Value.bool true]),
    fun _ => (3 : Nat) ≤ (3 : Nat),
    fun _ => false = false,
    fun _ => false = false] (It.rnd [(0 : Nat), (0 : Nat), (1 : Nat), (0 : Nat), (1 : Nat), (1 : Nat)] (M + (1 : Nat)) :: kt) (St.mk [((12 : Nat), SV.v (Value.int IntKind.i64 (IntKind.wrap IntKind.i64 ((↑k : Int) + (1 : Int))))), ((11 : Nat), SV.v (Value.int IntKind.i64 (↑n : Int))), ((10 : Nat), SV.v (Value.slice (some ad) n cap)), ((3 : Nat), SV.o (0 : Nat)), ((2 : Nat), SV.v (Value.slice none (0 : Nat) (0 : Nat)))] [HO.row (63 : Nat) (3 : Nat) m (mapv ds), HO.cells [SV.v (Value.int IntKind.i64 op), SV.v (Value.int IntKind.i64 a), SV.v (Value.int IntKind.i64 b), SV.v (Value.int IntKind.u64 z0), SV.v (Value.int IntKind.u64 z1), SV.v (Value.int IntKind.u64 z2), SV.v (Value.int IntKind.u64 z3)] (43 : Nat), HO.cells [SV.v (Value.int IntKind.i64 (0 : Int)), SV.v (Value.int IntKind.i64 (0 : Int)), SV.v (Value.int IntKind.i64 (0 : Int))] (103 : Nat)])]
  := by kernel_rfl

theorem qs0s (ad : Addr) (n cap k M : Nat) (op a b z0 z1 z2 z3 : Int) (kt : List It) : ((xgo Try.prog X (bodyOf Try.f38) 39 K9 [] 60 [.t, .ld (.agg [.v (.int .i64 op), .v (.int .i64 a), .v (.int .i64 b), .v (.int .u64 z0), .v (.int .u64 z1), .v (.int .u64 z2), .v (.int .u64 z3)]), .ld (.v (.tuple #[.iface 134 (.agg #[.int .i64 a, .int .u64 z0, .int .u64 z1, .int .u64 z2, .int .u64 z3]), .bool true])), .f, .f] ((.nil)) (.at [0,0,1,0,1,1] :: .rnd [0,0,1,0,1,1] (M + 1) :: kt) ⟨[(12, .v (.int .i64 (k : Int))), (11, .v (.int .i64 (n : Int))), (10, .v (.slice (some ad) n cap)), (3, .v (.slice none 0 0)), (2, .v (.slice none 0 0))], []⟩ [] []).map (trims [12, 11, 10, 3, 2])) =
  some [Leaf2.mk [] [fun _ => decide ((↑k : Int) < (↑n : Int)) = true,
    fun _ => (0 : Int) ≤ (↑k : Int) ∧ (↑k : Int) < (↑n : Int),
    fun _ => true = true, fun M => MCells (fun a => M a) (some (if Int.toNat (↑k : Int) * (7 : Nat) = (0 : Nat) then ad else Addr.mk ad.1 (ad.2 + Int.toNat (↑k : Int) * (7 : Nat)) none)) [Value.int IntKind.i64 op, Value.int IntKind.i64 a, Value.int IntKind.i64 b, Value.int IntKind.u64 z0, Value.int IntKind.u64 z1, Value.int IntKind.u64 z2, Value.int IntKind.u64 z3],
    fun _ => (0 : Nat) + (7 : Nat) ≤ (7 : Nat),
    fun _ => True,
    fun _ => rdV op a b (Value.int IntKind.u64 z0) (Value.int IntKind.u64 z1) (Value.int IntKind.u64 z2) (Value.int IntKind.u64 z3) = Value.tuple (Array.mk [Value.iface (134 : Nat) (Value.agg (Array.mk [Value.int IntKind.i64 a, Value.int IntKind.u64 z0, Value.int IntKind.u64 z1, Value.int IntKind.u64 z2, Value.int IntKind.u64 z3])), Value.bool true]),
    fun _ => (3 : Nat) ≤ (3 : Nat),
    fun _ => false = false,
    fun _ => false = false] (It.rnd [(0 : Nat), (0 : Nat), (1 : Nat), (0 : Nat), (1 : Nat), (1 : Nat)] (M + (1 : Nat)) :: kt) (St.mk [((12 : Nat), SV.v (Value.int IntKind.i64 (IntKind.wrap IntKind.i64 ((↑k : Int) + (1 : Int))))), ((11 : Nat), SV.v (Value.int IntKind.i64 (↑n : Int))), ((10 : Nat), SV.v (Value.slice (some ad) n cap)), ((3 : Nat), SV.v (Value.slice none (0 : Nat) (0 : Nat))), ((2 : Nat), SV.v (Value.slice none (0 : Nat) (0 : Nat)))] [HO.cells [SV.v (Value.int IntKind.i64 op), SV.v (Value.int IntKind.i64 a), SV.v (Value.int IntKind.i64 b), SV.v (Value.int IntKind.u64 z0), SV.v (Value.int IntKind.u64 z1), SV.v (Value.int IntKind.u64 z2), SV.v (Value.int IntKind.u64 z3)] (43 : Nat), HO.cells [SV.v (Value.int IntKind.i64 (0 : Int)), SV.v (Value.int IntKind.i64 (0 : Int)), SV.v (Value.int IntKind.i64 (0 : Int))] (103 : Nat)])]
  := by kernel_rfl

theorem qs1s (ad : Addr) (n cap k M : Nat) (op a b z0 z1 z2 z3 : Int) (m : Nat) (ds : List Value) (kt : List It) : ((xgo Try.prog X (bodyOf Try.f38) 39 K9 [] 60 [.t, .ld (.agg [.v (.int .i64 op), .v (.int .i64 a), .v (.int .i64 b), .v (.int .u64 z0), .v (.int .u64 z1), .v (.int .u64 z2), .v (.int .u64 z3)]), .ld (.v (.tuple #[.iface 134 (.agg #[.int .i64 a, .int .u64 z0, .int .u64 z1, .int .u64 z2, .int .u64 z3]), .bool true])), .f, .f] ((.nil)) (.at [0,0,1,0,1,1] :: .rnd [0,0,1,0,1,1] (M + 1) :: kt) ⟨[(12, .v (.int .i64 (k : Int))), (11, .v (.int .i64 (n : Int))), (10, .v (.slice (some ad) n cap)), (3, .o 0), (2, .v (.slice none 0 0))], [.row 63 3 m (mapv ds)]⟩ [] []).map (trims [12, 11, 10, 3, 2])) =
  some [Leaf2.mk [] [fun _ => decide ((↑k : Int) < (↑n : Int)) = true,
    fun _ => (0 : Int) ≤ (↑k : Int) ∧ (↑k : Int) < (↑n : Int),
    fun _ => true = true, fun M => MCells (fun a => M a) (some (if Int.toNat (↑k : Int) * (7 : Nat) = (0 : Nat) then ad else Addr.mk ad.1 (ad.2 + Int.toNat (↑k : Int) * (7 : Nat)) none)) [Value.int IntKind.i64 op, Value.int IntKind.i64 a, Value.int IntKind.i64 b, Value.int IntKind.u64 z0, Value.int IntKind.u64 z1, Value.int IntKind.u64 z2, Value.int IntKind.u64 z3],
    fun _ => (0 : Nat) + (7 : Nat) ≤ (7 : Nat),
    fun _ => True,
    fun _ => rdV op a b (Value.int IntKind.u64 z0) (Value.int IntKind.u64 z1) (Value.int IntKind.u64 z2) (Value.int IntKind.u64 z3) = Value.tuple (Array.mk [Value.iface (134 : Nat) (Value.agg (Array.mk [Value.int IntKind.i64 a, Value.int IntKind.u64 z0, Value.int IntKind.u64 z1, Value.int IntKind.u64 z2, Value.int IntKind.u64 z3])), Value.bool true]),
    fun _ => (3 : Nat) ≤ (3 : Nat),
    fun _ => false = false,
    fun _ => false = false] (It.rnd [(0 : Nat), (0 : Nat), (1 : Nat), (0 : Nat), (1 : Nat), (1 : Nat)] (M + (1 : Nat)) :: kt) (St.mk [((12 : Nat), SV.v (Value.int IntKind.i64 (IntKind.wrap IntKind.i64 ((↑k : Int) + (1 : Int))))), ((11 : Nat), SV.v (Value.int IntKind.i64 (↑n : Int))), ((10 : Nat), SV.v (Value.slice (some ad) n cap)), ((3 : Nat), SV.o (0 : Nat)), ((2 : Nat), SV.v (Value.slice none (0 : Nat) (0 : Nat)))] [HO.row (63 : Nat) (3 : Nat) m (mapv ds), HO.cells [SV.v (Value.int IntKind.i64 op), SV.v (Value.int IntKind.i64 a), SV.v (Value.int IntKind.i64 b), SV.v (Value.int IntKind.u64 z0), SV.v (Value.int IntKind.u64 z1), SV.v (Value.int IntKind.u64 z2), SV.v (Value.int IntKind.u64 z3)] (43 : Nat), HO.cells [SV.v (Value.int IntKind.i64 (0 : Int)), SV.v (Value.int IntKind.i64 (0 : Int)), SV.v (Value.int IntKind.i64 (0 : Int))] (103 : Nat)])]
  := by kernel_rfl

theorem qs0x (ad : Addr) (n cap k M : Nat) (op a b z0 z1 z2 z3 : Int) (kt : List It) : ((xgo Try.prog X (bodyOf Try.f38) 39 K9 [] 60 [.t, .ld (.agg [.v (.int .i64 op), .v (.int .i64 a), .v (.int .i64 b), .v (.int .u64 z0), .v (.int .u64 z1), .v (.int .u64 z2), .v (.int .u64 z3)]), .ld (.v (.tuple #[.nilIface, .bool false])), .f, .f] ((.nil)) (.at [0,0,1,0,1,1] :: .rnd [0,0,1,0,1,1] (M + 1) :: kt) ⟨[(12, .v (.int .i64 (k : Int))), (11, .v (.int .i64 (n : Int))), (10, .v (.slice (some ad) n cap)), (3, .v (.slice none 0 0)), (2, .v (.slice none 0 0))], []⟩ [] []).map (trims [12, 11, 10, 3, 2])) =
  some [Leaf2.mk [] [fun _ => decide ((↑k : Int) < (↑n : Int)) = true,
    fun _ => (0 : Int) ≤ (↑k : Int) ∧ (↑k : Int) < (↑n : Int),
    fun _ => true = true, fun M => MCells (fun a => M a) (some (if Int.toNat (↑k : Int) * (7 : Nat) = (0 : Nat) then ad else Addr.mk ad.1 (ad.2 + Int.toNat (↑k : Int) * (7 : Nat)) none)) [Value.int IntKind.i64 op, Value.int IntKind.i64 a, Value.int IntKind.i64 b, Value.int IntKind.u64 z0, Value.int IntKind.u64 z1, Value.int IntKind.u64 z2, Value.int IntKind.u64 z3],
    fun _ => (0 : Nat) + (7 : Nat) ≤ (7 : Nat),
    fun _ => True,
    fun _ => rdV op a b (Value.int IntKind.u64 z0) (Value.int IntKind.u64 z1) (Value.int IntKind.u64 z2) (Value.int IntKind.u64 z3) = Value.tuple (Array.mk [Value.nilIface, Value.bool false]),
    fun _ => (3 : Nat) ≤ (3 : Nat),
    fun _ => false = false,
    fun _ => false = false] (It.rnd [(0 : Nat), (0 : Nat), (1 : Nat), (0 : Nat), (1 : Nat), (1 : Nat)] (M + (1 : Nat)) :: kt) (St.mk [((12 : Nat), SV.v (Value.int IntKind.i64 (IntKind.wrap IntKind.i64 ((↑k : Int) + (1 : Int))))), ((11 : Nat), SV.v (Value.int IntKind.i64 (↑n : Int))), ((10 : Nat), SV.v (Value.slice (some ad) n cap)), ((3 : Nat), SV.v (Value.slice none (0 : Nat) (0 : Nat))), ((2 : Nat), SV.v (Value.slice none (0 : Nat) (0 : Nat)))] [HO.cells [SV.v (Value.int IntKind.i64 op), SV.v (Value.int IntKind.i64 a), SV.v (Value.int IntKind.i64 b), SV.v (Value.int IntKind.u64 z0), SV.v (Value.int IntKind.u64 z1), SV.v (Value.int IntKind.u64 z2), SV.v (Value.int IntKind.u64 z3)] (43 : Nat), HO.cells [SV.v (Value.int IntKind.i64 (0 : Int)), SV.v (Value.int IntKind.i64 (0 : Int)), SV.v (Value.int IntKind.i64 (0 : Int))] (103 : Nat)])]
  := by kernel_rfl

theorem qs1x (ad : Addr) (n cap k M : Nat) (op a b z0 z1 z2 z3 : Int) (m : Nat) (ds : List Value) (kt : List It) : ((xgo Try.prog X (bodyOf Try.f38) 39 K9 [] 60 [.t, .ld (.agg [.v (.int .i64 op), .v (.int .i64 a), .v (.int .i64 b), .v (.int .u64 z0), .v (.int .u64 z1), .v (.int .u64 z2), .v (.int .u64 z3)]), .ld (.v (.tuple #[.nilIface, .bool false])), .f, .f] ((.nil)) (.at [0,0,1,0,1,1] :: .rnd [0,0,1,0,1,1] (M + 1) :: kt) ⟨[(12, .v (.int .i64 (k : Int))), (11, .v (.int .i64 (n : Int))), (10, .v (.slice (some ad) n cap)), (3, .o 0), (2, .v (.slice none 0 0))], [.row 63 3 m (mapv ds)]⟩ [] []).map (trims [12, 11, 10, 3, 2])) =
  some [Leaf2.mk [] [fun _ => decide ((↑k : Int) < (↑n : Int)) = true,
    fun _ => (0 : Int) ≤ (↑k : Int) ∧ (↑k : Int) < (↑n : Int),
    fun _ => true = true, fun M => MCells (fun a => M a) (some (if Int.toNat (↑k : Int) * (7 : Nat) = (0 : Nat) then ad else Addr.mk ad.1 (ad.2 + Int.toNat (↑k : Int) * (7 : Nat)) none)) [Value.int IntKind.i64 op, Value.int IntKind.i64 a, Value.int IntKind.i64 b, Value.int IntKind.u64 z0, Value.int IntKind.u64 z1, Value.int IntKind.u64 z2, Value.int IntKind.u64 z3],
    fun _ => (0 : Nat) + (7 : Nat) ≤ (7 : Nat),
    fun _ => True,
    fun _ => rdV op a b (Value.int IntKind.u64 z0) (Value.int IntKind.u64 z1) (Value.int IntKind.u64 z2) (Value.int IntKind.u64 z3) = Value.tuple (Array.mk [Value.nilIface, Value.bool false]),
    fun _ => (3 : Nat) ≤ (3 : Nat),
    fun _ => false = false,
    fun _ => false = false] (It.rnd [(0 : Nat), (0 : Nat), (1 : Nat), (0 : Nat), (1 : Nat), (1 : Nat)] (M + (1 : Nat)) :: kt) (St.mk [((12 : Nat), SV.v (Value.int IntKind.i64 (IntKind.wrap IntKind.i64 ((↑k : Int) + (1 : Int))))), ((11 : Nat), SV.v (Value.int IntKind.i64 (↑n : Int))), ((10 : Nat), SV.v (Value.slice (some ad) n cap)), ((3 : Nat), SV.o (0 : Nat)), ((2 : Nat), SV.v (Value.slice none (0 : Nat) (0 : Nat)))] [HO.row (63 : Nat) (3 : Nat) m (mapv ds), HO.cells [SV.v (Value.int IntKind.i64 op), SV.v (Value.int IntKind.i64 a), SV.v (Value.int IntKind.i64 b), SV.v (Value.int IntKind.u64 z0), SV.v (Value.int IntKind.u64 z1), SV.v (Value.int IntKind.u64 z2), SV.v (Value.int IntKind.u64 z3)] (43 : Nat), HO.cells [SV.v (Value.int IntKind.i64 (0 : Int)), SV.v (Value.int IntKind.i64 (0 : Int)), SV.v (Value.int IntKind.i64 (0 : Int))] (103 : Nat)])]
  := by kernel_rfl

theorem qs0q (ad : Addr) (n cap k M : Nat) (op a b z0 z1 z2 z3 : Int) (kt : List It) : ((xgo Try.prog X (bodyOf Try.f38) 39 K9 [] 60 [.t, .ld (.agg [.v (.int .i64 op), .v (.int .i64 a), .v (.int .i64 b), .v (.int .u64 z0), .v (.int .u64 z1), .v (.int .u64 z2), .v (.int .u64 z3)]), .ld (.v (.tuple #[.iface 103 (.agg #[.int .i64 op, .int .i64 a, .int .i64 b]), .bool true])), .t, .t] ((.nil)) (.at [0,0,1,0,1,1] :: .rnd [0,0,1,0,1,1] (M + 1) :: kt) ⟨[(12, .v (.int .i64 (k : Int))), (11, .v (.int .i64 (n : Int))), (10, .v (.slice (some ad) n cap)), (3, .v (.slice none 0 0)), (2, .v (.slice none 0 0))], []⟩ [] []).map (trims [12, 11, 10, 3, 2])) =
  some [Leaf2.mk [] [fun _ => decide ((↑k : Int) < (↑n : Int)) = true,
    fun _ => (0 : Int) ≤ (↑k : Int) ∧ (↑k : Int) < (↑n : Int),
    fun _ => true = true, fun M => MCells (fun a => M a) (some (if Int.toNat (↑k : Int) * (7 : Nat) = (0 : Nat) then ad else Addr.mk ad.1 (ad.2 + Int.toNat (↑k : Int) * (7 : Nat)) none)) [Value.int IntKind.i64 op, Value.int IntKind.i64 a, Value.int IntKind.i64 b, Value.int IntKind.u64 z0, Value.int IntKind.u64 z1, Value.int IntKind.u64 z2, Value.int IntKind.u64 z3],
    fun _ => (0 : Nat) + (7 : Nat) ≤ (7 : Nat),
    fun _ => True,
    fun _ => rdV op a b (Value.int IntKind.u64 z0) (Value.int IntKind.u64 z1) (Value.int IntKind.u64 z2) (Value.int IntKind.u64 z3) = Value.tuple (Array.mk [Value.iface (103 : Nat) (Value.agg (Array.mk [Value.int IntKind.i64 op, Value.int IntKind.i64 a, Value.int IntKind.i64 b])), Value.bool true]),
    fun _ => (0 : Nat) + (3 : Nat) ≤ (3 : Nat),
    fun _ => true = true,
    fun _ => True,
    fun _ => (!qHas [] op a b) = true,
    fun _ => (24 : Nat) ≤ (140737488355328 : Nat) ∧ (1 : Nat) ≤ (140737488355328 : Nat)] (It.rnd [(0 : Nat), (0 : Nat), (1 : Nat), (0 : Nat), (1 : Nat), (1 : Nat)] (M + (1 : Nat)) :: kt) (St.mk [((12 : Nat), SV.v (Value.int IntKind.i64 (IntKind.wrap IntKind.i64 ((↑k : Int) + (1 : Int))))), ((11 : Nat), SV.v (Value.int IntKind.i64 (↑n : Int))), ((10 : Nat), SV.v (Value.slice (some ad) n cap)), ((3 : Nat), SV.o (3 : Nat)), ((2 : Nat), SV.v (Value.slice none (0 : Nat) (0 : Nat)))] [HO.cells [SV.v (Value.int IntKind.i64 op), SV.v (Value.int IntKind.i64 a), SV.v (Value.int IntKind.i64 b), SV.v (Value.int IntKind.u64 z0), SV.v (Value.int IntKind.u64 z1), SV.v (Value.int IntKind.u64 z2), SV.v (Value.int IntKind.u64 z3)] (43 : Nat), HO.cells [SV.v (Value.int IntKind.i64 op), SV.v (Value.int IntKind.i64 a), SV.v (Value.int IntKind.i64 b)] (103 : Nat), HO.row (63 : Nat) (3 : Nat) (1 : Nat) [SV.v (Value.int IntKind.i64 op), SV.v (Value.int IntKind.i64 a), SV.v (Value.int IntKind.i64 b)], HO.row (63 : Nat) (3 : Nat) (1 : Nat) [SV.v (Value.int IntKind.i64 op), SV.v (Value.int IntKind.i64 a), SV.v (Value.int IntKind.i64 b)]])]
  := by kernel_rfl

theorem qs1t (ad : Addr) (n cap k M : Nat) (op a b z0 z1 z2 z3 : Int) (m : Nat) (ds : List Value) (kt : List It) : ((xgo Try.prog X (bodyOf Try.f38) 39 K9 [] 60 [.t, .ld (.agg [.v (.int .i64 op), .v (.int .i64 a), .v (.int .i64 b), .v (.int .u64 z0), .v (.int .u64 z1), .v (.int .u64 z2), .v (.int .u64 z3)]), .ld (.v (.tuple #[.iface 103 (.agg #[.int .i64 op, .int .i64 a, .int .i64 b]), .bool true])), .t, .f] ((.nil)) (.at [0,0,1,0,1,1] :: .rnd [0,0,1,0,1,1] (M + 1) :: kt) ⟨[(12, .v (.int .i64 (k : Int))), (11, .v (.int .i64 (n : Int))), (10, .v (.slice (some ad) n cap)), (3, .o 0), (2, .v (.slice none 0 0))], [.row 63 3 m (mapv ds)]⟩ [] []).map (trims [12, 11, 10, 3, 2])) =
  some [Leaf2.mk [] [fun _ => decide ((↑k : Int) < (↑n : Int)) = true,
    fun _ => (0 : Int) ≤ (↑k : Int) ∧ (↑k : Int) < (↑n : Int),
    fun _ => true = true, fun M => MCells (fun a => M a) (some (if Int.toNat (↑k : Int) * (7 : Nat) = (0 : Nat) then ad else Addr.mk ad.1 (ad.2 + Int.toNat (↑k : Int) * (7 : Nat)) none)) [Value.int IntKind.i64 op, Value.int IntKind.i64 a, Value.int IntKind.i64 b, Value.int IntKind.u64 z0, Value.int IntKind.u64 z1, Value.int IntKind.u64 z2, Value.int IntKind.u64 z3],
    fun _ => (0 : Nat) + (7 : Nat) ≤ (7 : Nat),
    fun _ => True,
    fun _ => rdV op a b (Value.int IntKind.u64 z0) (Value.int IntKind.u64 z1) (Value.int IntKind.u64 z2) (Value.int IntKind.u64 z3) = Value.tuple (Array.mk [Value.iface (103 : Nat) (Value.agg (Array.mk [Value.int IntKind.i64 op, Value.int IntKind.i64 a, Value.int IntKind.i64 b])), Value.bool true]),
    fun _ => (0 : Nat) + (3 : Nat) ≤ (3 : Nat),
    fun _ => true = true,
    fun _ => mapv ds = mapv (unv (mapv ds)),
    fun _ => unv (mapv ds) = qsC (unQs (unv (mapv ds))) ∧ List.length (unQs (unv (mapv ds))) = m ∧ m ≤ (4611686018427387903 : Nat),
    fun _ => (!qHas (unv (mapv ds)) op a b) = false] (It.rnd [(0 : Nat), (0 : Nat), (1 : Nat), (0 : Nat), (1 : Nat), (1 : Nat)] (M + (1 : Nat)) :: kt) (St.mk [((12 : Nat), SV.v (Value.int IntKind.i64 (IntKind.wrap IntKind.i64 ((↑k : Int) + (1 : Int))))), ((11 : Nat), SV.v (Value.int IntKind.i64 (↑n : Int))), ((10 : Nat), SV.v (Value.slice (some ad) n cap)), ((3 : Nat), SV.o (0 : Nat)), ((2 : Nat), SV.v (Value.slice none (0 : Nat) (0 : Nat)))] [HO.row (63 : Nat) (3 : Nat) m (mapv ds), HO.cells [SV.v (Value.int IntKind.i64 op), SV.v (Value.int IntKind.i64 a), SV.v (Value.int IntKind.i64 b), SV.v (Value.int IntKind.u64 z0), SV.v (Value.int IntKind.u64 z1), SV.v (Value.int IntKind.u64 z2), SV.v (Value.int IntKind.u64 z3)] (43 : Nat), HO.cells [SV.v (Value.int IntKind.i64 op), SV.v (Value.int IntKind.i64 a), SV.v (Value.int IntKind.i64 b)] (103 : Nat)])]
  := by kernel_rfl

theorem qs1f (ad : Addr) (n cap k M : Nat) (op a b z0 z1 z2 z3 : Int) (m : Nat) (ds : List Value) (kt : List It) : ((xgo Try.prog X (bodyOf Try.f38) 39 K9 [] 60 [.t, .ld (.agg [.v (.int .i64 op), .v (.int .i64 a), .v (.int .i64 b), .v (.int .u64 z0), .v (.int .u64 z1), .v (.int .u64 z2), .v (.int .u64 z3)]), .ld (.v (.tuple #[.iface 103 (.agg #[.int .i64 op, .int .i64 a, .int .i64 b]), .bool true])), .t, .t] ((.nil)) (.at [0,0,1,0,1,1] :: .rnd [0,0,1,0,1,1] (M + 1) :: kt) ⟨[(12, .v (.int .i64 (k : Int))), (11, .v (.int .i64 (n : Int))), (10, .v (.slice (some ad) n cap)), (3, .o 0), (2, .v (.slice none 0 0))], [.row 63 3 m (mapv ds)]⟩ [] []).map (trims [12, 11, 10, 3, 2])) =
  some [Leaf2.mk [] [fun _ => decide ((↑k : Int) < (↑n : Int)) = true,
    fun _ => (0 : Int) ≤ (↑k : Int) ∧ (↑k : Int) < (↑n : Int),
    fun _ => true = true, fun M => MCells (fun a => M a) (some (if Int.toNat (↑k : Int) * (7 : Nat) = (0 : Nat) then ad else Addr.mk ad.1 (ad.2 + Int.toNat (↑k : Int) * (7 : Nat)) none)) [Value.int IntKind.i64 op, Value.int IntKind.i64 a, Value.int IntKind.i64 b, Value.int IntKind.u64 z0, Value.int IntKind.u64 z1, Value.int IntKind.u64 z2, Value.int IntKind.u64 z3],
    fun _ => (0 : Nat) + (7 : Nat) ≤ (7 : Nat),
    fun _ => True,
    fun _ => rdV op a b (Value.int IntKind.u64 z0) (Value.int IntKind.u64 z1) (Value.int IntKind.u64 z2) (Value.int IntKind.u64 z3) = Value.tuple (Array.mk [Value.iface (103 : Nat) (Value.agg (Array.mk [Value.int IntKind.i64 op, Value.int IntKind.i64 a, Value.int IntKind.i64 b])), Value.bool true]),
    fun _ => (0 : Nat) + (3 : Nat) ≤ (3 : Nat),
    fun _ => true = true,
    fun _ => mapv ds = mapv (unv (mapv ds)),
    fun _ => unv (mapv ds) = qsC (unQs (unv (mapv ds))) ∧ List.length (unQs (unv (mapv ds))) = m ∧ m ≤ (4611686018427387903 : Nat),
    fun _ => (!qHas (unv (mapv ds)) op a b) = true,
    fun _ => (m + (1 : Nat)) * (24 : Nat) ≤ (140737488355328 : Nat) ∧ m + (1 : Nat) ≤ (140737488355328 : Nat)] (It.rnd [(0 : Nat), (0 : Nat), (1 : Nat), (0 : Nat), (1 : Nat), (1 : Nat)] (M + (1 : Nat)) :: kt) (St.mk [((12 : Nat), SV.v (Value.int IntKind.i64 (IntKind.wrap IntKind.i64 ((↑k : Int) + (1 : Int))))), ((11 : Nat), SV.v (Value.int IntKind.i64 (↑n : Int))), ((10 : Nat), SV.v (Value.slice (some ad) n cap)), ((3 : Nat), SV.o (4 : Nat)), ((2 : Nat), SV.v (Value.slice none (0 : Nat) (0 : Nat)))] [HO.gone, HO.cells [SV.v (Value.int IntKind.i64 op), SV.v (Value.int IntKind.i64 a), SV.v (Value.int IntKind.i64 b), SV.v (Value.int IntKind.u64 z0), SV.v (Value.int IntKind.u64 z1), SV.v (Value.int IntKind.u64 z2), SV.v (Value.int IntKind.u64 z3)] (43 : Nat), HO.cells [SV.v (Value.int IntKind.i64 op), SV.v (Value.int IntKind.i64 a), SV.v (Value.int IntKind.i64 b)] (103 : Nat), HO.row (63 : Nat) (3 : Nat) (1 : Nat) [SV.v (Value.int IntKind.i64 op), SV.v (Value.int IntKind.i64 a), SV.v (Value.int IntKind.i64 b)], HO.row (63 : Nat) (3 : Nat) (m + (1 : Nat)) (mapv ds ++ [SV.v (Value.int IntKind.i64 op), SV.v (Value.int IntKind.i64 a), SV.v (Value.int IntKind.i64 b)])])]
  := by kernel_rfl

theorem qsE0 (oa : Option Addr) (n cap k M : Nat) : (((xgo Try.prog X (bodyOf Try.f38) 39 K9 [] 60 [.f] ((.nil)) [.at [0,0,1,0,1,1], .rnd [0,0,1,0,1,1] (M + 1), .blk 0, .at [1,1,1]] ⟨[(12, .v (.int .i64 (k : Int))), (11, .v (.int .i64 (n : Int))), (10, .v (.slice oa n cap)), (3, .v (.slice none 0 0)), (2, .v (.slice none 0 0))], []⟩ [] []).bind (ends Try.prog Try.f38.results.toList)).bind plainE) =
  some [EndP.mk [] [fun _ => decide ((↑k : Int) < (↑n : Int)) = false] (Res.v (Value.slice none (0 : Nat) (0 : Nat)))]
  := by kernel_rfl

theorem qsE1 (oa : Option Addr) (n cap k M m : Nat) (ds : List Value) : (((xgo Try.prog X (bodyOf Try.f38) 39 K9 [] 60 [.f] ((.nil)) [.at [0,0,1,0,1,1], .rnd [0,0,1,0,1,1] (M + 1), .blk 0, .at [1,1,1]] ⟨[(12, .v (.int .i64 (k : Int))), (11, .v (.int .i64 (n : Int))), (10, .v (.slice oa n cap)), (3, .o 0), (2, .v (.slice none 0 0))], [.row 63 3 m (mapv ds)]⟩ [] []).bind (ends Try.prog Try.f38.results.toList)).bind plainE) =
  some [EndP.mk [] [fun _ => decide ((↑k : Int) < (↑n : Int)) = false,
    fun _ => mapv ds = mapv (unv (mapv ds))] (Res.r (63 : Nat) (3 : Nat) m (unv (mapv ds)))]
  := by kernel_rfl

noncomputable def stQ0 (oa : Option Addr) (n cap k : Nat) : St := ⟨[(12, .v (.int .i64 (k : Int))), (11, .v (.int .i64 (n : Int))), (10, .v (.slice oa n cap)), (3, .v (.slice none 0 0)), (2, .v (.slice none 0 0))], []⟩
noncomputable def stQ1 (oa : Option Addr) (n cap k m : Nat) (ds : List Value) : St := ⟨[(12, .v (.int .i64 (k : Int))), (11, .v (.int .i64 (n : Int))), (10, .v (.slice oa n cap)), (3, .o 0), (2, .v (.slice none 0 0))], [.row 63 3 m (mapv ds)]⟩
theorem q1_weak {w : World} {fin : Exit → Act → World → Prop} (oa : Option Addr) (n cap k m j : Nat) (ds : List Value) (xs : List SV) (hx : xs = mapv ds) (hj : nodupB [j] = true) (kt : List It) (tm : List (Nat × SV)) (hp : List HO) (h1 : RenT [j] tm (stQ1 oa n cap k m ds).tm) (h2 : hp[j]? = some (.row 63 3 m xs))
    (next : Ok Try.prog (bodyOf Try.f38) 39 (F0 w) w fin kt (stQ1 oa n cap k m ds)) : Ok Try.prog (bodyOf Try.f38) 39 (F0 w) w fin kt ⟨tm, hp⟩ :=
  Ok.weaken (st' := stQ1 oa n cap k m ds) (F0.mono w) [j] h1 ⟨by rw [h2, hx]; exact ren_row _ _ _ _ _, trivial⟩ hj ⟨by simp [stQ1, wsAllT, ws], by simp only [stQ1, wsAllH, HO.ws, and_true]; exact wsL_mapv _ _⟩ next
theorem q0_weak {w : World} {fin : Exit → Act → World → Prop} (oa : Option Addr) (n cap k : Nat) (kt : List It) (tm : List (Nat × SV)) (hp : List HO) (h1 : RenT [] tm (stQ0 oa n cap k).tm)
    (next : Ok Try.prog (bodyOf Try.f38) 39 (F0 w) w fin kt (stQ0 oa n cap k)) : Ok Try.prog (bodyOf Try.f38) 39 (F0 w) w fin kt ⟨tm, hp⟩ :=
  Ok.weaken (st' := stQ0 oa n cap k) (F0.mono w) [] h1 trivial rfl ⟨by simp [stQ0, wsAllT, ws], trivial⟩ next
theorem qs_loop1 {w : World} (oa : Option Addr) (n cap : Nat) (all : List Nd) (hn : all.length = n) (hb : n ≤ 4398046511104) (ha : nodesC all = [] ∨ MCells (wmem w) oa (nodesC all)) (R : Res → Prop) :
    ∀ (l pre : List Nd) (out : List Qy), all = pre ++ l → out.length ≤ pre.length → R (.r 63 3 (qsN out l).length (qsC (qsN out l))) →
    Ok Try.prog (bodyOf Try.f38) 39 (F0 w) w (bodyPost Try.prog Try.f38 fun E w' => ∃ v r, E = .returned v ∧ R r ∧ r.ok w w' v ∧ Below w.heap.size w w') (.rnd [0,0,1,0,1,1] (l.length + 2) :: [.blk 0, .at [1,1,1]]) (stQ1 oa n cap pre.length out.length (qsC out))
  | [], pre, out, he, ho, hR => by
    have hl : pre.length = n := by rw [← hn, he]; simp
    refine Ok.rnd (ok_plain hm (F0.mono w) (fun _ h => h) 60 _ _ _ _ (qsE1 oa n cap pre.length 0 out.length (qsC out)) ⟨fun _ => ⟨?_, ?_⟩, trivial⟩)
    · simp only [hold_cons, hold_nil, and_true, unv_mapv']
      exact ⟨fun _ _ => decide_eq_false (by omega), fun _ _ => trivial⟩
    · rw [unv_mapv']
      exact hR
  | x :: l, pre, out, he, ho, hR => by
    have hl : pre.length + (l.length + 1) = n := by rw [← hn, he]; simp
    have hne : MCells (wmem w) oa (nodesC all) := by
      rcases ha with h | h
      · rw [he, nodesC_append, nodesC_cons] at h; simp [ndC] at h
      · exact h
    obtain ⟨ad, rfl, hcells⟩ := hne
    have hx : MCells (wmem w) (some (ad.add (pre.length * 7))) (ndC x) := nodes_at pre l x (by rw [← he]; exact ⟨ad, rfl, hcells⟩)
    have s1 : decide (((pre.length : Nat) : Int) < (n : Int)) = true := decide_eq_true (by omega)
    have s2 : (0 : Int) ≤ ((pre.length : Nat) : Int) ∧ ((pre.length : Nat) : Int) < (n : Int) := ⟨by omega, by omega⟩
    have hlen : (pre ++ [x]).length = pre.length + 1 := by simp
    rw [qsN_step] at hR
    by_cases hkq : 2 ≤ x.op ∧ x.op ≤ 4
    · have hrd := rd_q x.a x.b (.int .u64 (limb x.v 0 : Nat)) (.int .u64 (limb x.v 1 : Nat)) (.int .u64 (limb x.v 2 : Nat)) (.int .u64 (limb x.v 3 : Nat)) hkq
      rw [show qryN x = true by rw [qryN]; exact decide_eq_true hkq, Bool.true_and] at hR
      have hhas : qHas (qsC out) x.op x.a x.b = decide ((x.op, x.a, x.b) ∈ out) := by rw [qHas, hidQ_eq, unQs_qsC]
      by_cases hin : (x.op, x.a, x.b) ∈ out
      · rw [decide_eq_true hin, Bool.not_true, if_neg (by simp)] at hR
        rw [decide_eq_true hin] at hhas
        have next := qs_loop1 (w := w) (some ad) n cap all hn hb ha R l (pre ++ [x]) out (by rw [he]; simp) (by omega) hR
        rw [hlen] at next
        refine Ok.rnd (xgo_trim hm (F0.mono w) finB 60 _ _ _ _ _ _ (qs1t ad n cap pre.length (l.length + 1) x.op x.a x.b (limb x.v 0 : Nat) (limb x.v 1 : Nat) (limb x.v 2 : Nat) (limb x.v 3 : Nat) out.length (qsC out) _) (paidCons (fun _ => ⟨?_, ?_⟩) paidNil))
        · simp only [hold_cons, hold_nil, and_true, unv_mapv', unQs_qsC, hhas]
          exact ⟨fun _ _ => s1, fun _ _ => s2, fun _ _ => trivial, hold_cells hx, fun _ _ => by omega, fun _ _ => trivial, fun _ _ => hrd, fun _ _ => by omega, fun _ _ => trivial, fun _ _ => trivial, fun _ _ => ⟨trivial, trivial, by omega⟩, fun _ _ => rfl⟩
        · simp only [wrap_inc pre.length (by omega)]
          exact q1_weak _ _ _ _ _ 0 _ _ rfl rfl _ _ _ ⟨rfl, rfl, rfl, rfl, rfl, trivial⟩ rfl next
      · rw [decide_eq_false hin, Bool.not_false, if_pos rfl] at hR
        rw [decide_eq_false hin] at hhas
        have next := qs_loop1 (w := w) (some ad) n cap all hn hb ha R l (pre ++ [x]) (out ++ [(x.op, x.a, x.b)]) (by rw [he]; simp) (by simp; omega) hR
        rw [hlen, List.length_append, List.length_singleton, qsC_append] at next
        refine Ok.rnd (xgo_trim hm (F0.mono w) finB 60 _ _ _ _ _ _ (qs1f ad n cap pre.length (l.length + 1) x.op x.a x.b (limb x.v 0 : Nat) (limb x.v 1 : Nat) (limb x.v 2 : Nat) (limb x.v 3 : Nat) out.length (qsC out) _) (paidCons (fun _ => ⟨?_, ?_⟩) paidNil))
        · simp only [hold_cons, hold_nil, and_true, unv_mapv', unQs_qsC, hhas]
          exact ⟨fun _ _ => s1, fun _ _ => s2, fun _ _ => trivial, hold_cells hx, fun _ _ => by omega, fun _ _ => trivial, fun _ _ => hrd, fun _ _ => by omega, fun _ _ => trivial, fun _ _ => trivial, fun _ _ => ⟨trivial, trivial, by omega⟩, fun _ _ => rfl, fun _ _ => ⟨by omega, by omega⟩⟩
        · simp only [wrap_inc pre.length (by omega)]
          exact q1_weak _ _ _ _ _ 4 _ _ (by rw [mapv_append]; rfl) rfl _ _ _ ⟨rfl, rfl, rfl, rfl, rfl, trivial⟩ rfl next
    rw [show qryN x = false by rw [qryN]; exact decide_eq_false hkq, Bool.false_and, if_neg (by simp)] at hR
    have next := qs_loop1 (w := w) (some ad) n cap all hn hb ha R l (pre ++ [x]) out (by rw [he]; simp) (by omega) hR
    rw [hlen] at next
    by_cases hkc : x.op = 1
    · have hrd := rd_c x.a x.b (.int .u64 (limb x.v 0 : Nat)) (.int .u64 (limb x.v 1 : Nat)) (.int .u64 (limb x.v 2 : Nat)) (.int .u64 (limb x.v 3 : Nat)) hkc
      refine Ok.rnd (xgo_trim hm (F0.mono w) finB 60 _ _ _ _ _ _ (qs1c ad n cap pre.length (l.length + 1) x.op x.a x.b (limb x.v 0 : Nat) (limb x.v 1 : Nat) (limb x.v 2 : Nat) (limb x.v 3 : Nat) out.length (qsC out) _) (paidCons (fun _ => ⟨?_, ?_⟩) paidNil))
      · simp only [hold_cons, hold_nil, and_true]
        exact ⟨fun _ _ => s1, fun _ _ => s2, fun _ _ => trivial, hold_cells hx, fun _ _ => by omega, fun _ _ => trivial, fun _ _ => hrd, fun _ _ => by omega, fun _ _ => trivial, fun _ _ => trivial⟩
      · simp only [wrap_inc pre.length (by omega)]
        exact q1_weak _ _ _ _ _ 0 _ _ rfl rfl _ _ _ ⟨rfl, rfl, rfl, rfl, rfl, trivial⟩ rfl next
    by_cases hkn : x.op = 5
    · have hrd := rd_n x.a x.b (.int .u64 (limb x.v 0 : Nat)) (.int .u64 (limb x.v 1 : Nat)) (.int .u64 (limb x.v 2 : Nat)) (.int .u64 (limb x.v 3 : Nat)) hkn
      refine Ok.rnd (xgo_trim hm (F0.mono w) finB 60 _ _ _ _ _ _ (qs1n ad n cap pre.length (l.length + 1) x.op x.a x.b (limb x.v 0 : Nat) (limb x.v 1 : Nat) (limb x.v 2 : Nat) (limb x.v 3 : Nat) out.length (qsC out) _) (paidCons (fun _ => ⟨?_, ?_⟩) paidNil))
      · simp only [hold_cons, hold_nil, and_true]
        exact ⟨fun _ _ => s1, fun _ _ => s2, fun _ _ => trivial, hold_cells hx, fun _ _ => by omega, fun _ _ => trivial, fun _ _ => hrd, fun _ _ => by omega, fun _ _ => trivial, fun _ _ => trivial⟩
      · simp only [wrap_inc pre.length (by omega)]
        exact q1_weak _ _ _ _ _ 0 _ _ rfl rfl _ _ _ ⟨rfl, rfl, rfl, rfl, rfl, trivial⟩ rfl next
    by_cases hka : x.op = 6
    · have hrd := rd_a x.a x.b (.int .u64 (limb x.v 0 : Nat)) (.int .u64 (limb x.v 1 : Nat)) (.int .u64 (limb x.v 2 : Nat)) (.int .u64 (limb x.v 3 : Nat)) hka
      refine Ok.rnd (xgo_trim hm (F0.mono w) finB 60 _ _ _ _ _ _ (qs1a ad n cap pre.length (l.length + 1) x.op x.a x.b (limb x.v 0 : Nat) (limb x.v 1 : Nat) (limb x.v 2 : Nat) (limb x.v 3 : Nat) out.length (qsC out) _) (paidCons (fun _ => ⟨?_, ?_⟩) paidNil))
      · simp only [hold_cons, hold_nil, and_true]
        exact ⟨fun _ _ => s1, fun _ _ => s2, fun _ _ => trivial, hold_cells hx, fun _ _ => by omega, fun _ _ => trivial, fun _ _ => hrd, fun _ _ => by omega, fun _ _ => trivial, fun _ _ => trivial⟩
      · simp only [wrap_inc pre.length (by omega)]
        exact q1_weak _ _ _ _ _ 0 _ _ rfl rfl _ _ _ ⟨rfl, rfl, rfl, rfl, rfl, trivial⟩ rfl next
    by_cases hkm : x.op = 7
    · have hrd := rd_m x.a x.b (.int .u64 (limb x.v 0 : Nat)) (.int .u64 (limb x.v 1 : Nat)) (.int .u64 (limb x.v 2 : Nat)) (.int .u64 (limb x.v 3 : Nat)) hkm
      refine Ok.rnd (xgo_trim hm (F0.mono w) finB 60 _ _ _ _ _ _ (qs1m ad n cap pre.length (l.length + 1) x.op x.a x.b (limb x.v 0 : Nat) (limb x.v 1 : Nat) (limb x.v 2 : Nat) (limb x.v 3 : Nat) out.length (qsC out) _) (paidCons (fun _ => ⟨?_, ?_⟩) paidNil))
      · simp only [hold_cons, hold_nil, and_true]
        exact ⟨fun _ _ => s1, fun _ _ => s2, fun _ _ => trivial, hold_cells hx, fun _ _ => by omega, fun _ _ => trivial, fun _ _ => hrd, fun _ _ => by omega, fun _ _ => trivial, fun _ _ => trivial⟩
      · simp only [wrap_inc pre.length (by omega)]
        exact q1_weak _ _ _ _ _ 0 _ _ rfl rfl _ _ _ ⟨rfl, rfl, rfl, rfl, rfl, trivial⟩ rfl next
    by_cases hks : x.op = 8
    · have hrd := rd_s x.a x.b (.int .u64 (limb x.v 0 : Nat)) (.int .u64 (limb x.v 1 : Nat)) (.int .u64 (limb x.v 2 : Nat)) (.int .u64 (limb x.v 3 : Nat)) hks
      refine Ok.rnd (xgo_trim hm (F0.mono w) finB 60 _ _ _ _ _ _ (qs1s ad n cap pre.length (l.length + 1) x.op x.a x.b (limb x.v 0 : Nat) (limb x.v 1 : Nat) (limb x.v 2 : Nat) (limb x.v 3 : Nat) out.length (qsC out) _) (paidCons (fun _ => ⟨?_, ?_⟩) paidNil))
      · simp only [hold_cons, hold_nil, and_true]
        exact ⟨fun _ _ => s1, fun _ _ => s2, fun _ _ => trivial, hold_cells hx, fun _ _ => by omega, fun _ _ => trivial, fun _ _ => hrd, fun _ _ => by omega, fun _ _ => trivial, fun _ _ => trivial⟩
      · simp only [wrap_inc pre.length (by omega)]
        exact q1_weak _ _ _ _ _ 0 _ _ rfl rfl _ _ _ ⟨rfl, rfl, rfl, rfl, rfl, trivial⟩ rfl next
    have hkx : ¬ (1 ≤ x.op ∧ x.op ≤ 8) := by omega
    have hrd := rd_x x.a x.b (.int .u64 (limb x.v 0 : Nat)) (.int .u64 (limb x.v 1 : Nat)) (.int .u64 (limb x.v 2 : Nat)) (.int .u64 (limb x.v 3 : Nat)) hkx
    refine Ok.rnd (xgo_trim hm (F0.mono w) finB 60 _ _ _ _ _ _ (qs1x ad n cap pre.length (l.length + 1) x.op x.a x.b (limb x.v 0 : Nat) (limb x.v 1 : Nat) (limb x.v 2 : Nat) (limb x.v 3 : Nat) out.length (qsC out) _) (paidCons (fun _ => ⟨?_, ?_⟩) paidNil))
    · simp only [hold_cons, hold_nil, and_true]
      exact ⟨fun _ _ => s1, fun _ _ => s2, fun _ _ => trivial, hold_cells hx, fun _ _ => by omega, fun _ _ => trivial, fun _ _ => hrd, fun _ _ => by omega, fun _ _ => trivial, fun _ _ => trivial⟩
    · simp only [wrap_inc pre.length (by omega)]
      exact q1_weak _ _ _ _ _ 0 _ _ rfl rfl _ _ _ ⟨rfl, rfl, rfl, rfl, rfl, trivial⟩ rfl next
theorem qs_loop0 {w : World} (oa : Option Addr) (n cap : Nat) (all : List Nd) (hn : all.length = n) (hb : n ≤ 4398046511104) (ha : nodesC all = [] ∨ MCells (wmem w) oa (nodesC all)) (R : Res → Prop) (hnil : ∀ (T sz : Nat), R (.r T sz 0 []) → R (.v (.slice none 0 0))) :
    ∀ (l pre : List Nd), all = pre ++ l → R (.r 63 3 (qsN [] l).length (qsC (qsN [] l))) →
    Ok Try.prog (bodyOf Try.f38) 39 (F0 w) w (bodyPost Try.prog Try.f38 fun E w' => ∃ v r, E = .returned v ∧ R r ∧ r.ok w w' v ∧ Below w.heap.size w w') (.rnd [0,0,1,0,1,1] (l.length + 2) :: [.blk 0, .at [1,1,1]]) (stQ0 oa n cap pre.length)
  | [], pre, he, hR => by
    have hl : pre.length = n := by rw [← hn, he]; simp
    refine Ok.rnd (ok_plain hm (F0.mono w) (fun _ h => h) 60 _ _ _ _ (qsE0 oa n cap pre.length 0) ⟨fun _ => ⟨?_, hnil 63 3 hR⟩, trivial⟩)
    simp only [hold_cons, hold_nil, and_true]
    exact fun _ _ => decide_eq_false (by omega)
  | x :: l, pre, he, hR => by
    have hl : pre.length + (l.length + 1) = n := by rw [← hn, he]; simp
    have hne : MCells (wmem w) oa (nodesC all) := by
      rcases ha with h | h
      · rw [he, nodesC_append, nodesC_cons] at h; simp [ndC] at h
      · exact h
    obtain ⟨ad, rfl, hcells⟩ := hne
    have hx : MCells (wmem w) (some (ad.add (pre.length * 7))) (ndC x) := nodes_at pre l x (by rw [← he]; exact ⟨ad, rfl, hcells⟩)
    have s1 : decide (((pre.length : Nat) : Int) < (n : Int)) = true := decide_eq_true (by omega)
    have s2 : (0 : Int) ≤ ((pre.length : Nat) : Int) ∧ ((pre.length : Nat) : Int) < (n : Int) := ⟨by omega, by omega⟩
    have hlen : (pre ++ [x]).length = pre.length + 1 := by simp
    rw [qsN_step] at hR
    by_cases hkq : 2 ≤ x.op ∧ x.op ≤ 4
    · have hrd := rd_q x.a x.b (.int .u64 (limb x.v 0 : Nat)) (.int .u64 (limb x.v 1 : Nat)) (.int .u64 (limb x.v 2 : Nat)) (.int .u64 (limb x.v 3 : Nat)) hkq
      rw [show qryN x = true by rw [qryN]; exact decide_eq_true hkq, Bool.true_and, decide_eq_false (by simp), Bool.not_false, if_pos rfl, List.nil_append] at hR
      have hhas : qHas [] x.op x.a x.b = false := by rw [qHas, hidQ_eq]; exact decide_eq_false (by simp [unQs])
      have next := qs_loop1 (w := w) (some ad) n cap all hn hb ha R l (pre ++ [x]) [(x.op, x.a, x.b)] (by rw [he]; simp) (by simp) hR
      rw [hlen] at next
      refine Ok.rnd (xgo_trim hm (F0.mono w) finB 60 _ _ _ _ _ _ (qs0q ad n cap pre.length (l.length + 1) x.op x.a x.b (limb x.v 0 : Nat) (limb x.v 1 : Nat) (limb x.v 2 : Nat) (limb x.v 3 : Nat) _) (paidCons (fun _ => ⟨?_, ?_⟩) paidNil))
      · simp only [hold_cons, hold_nil, and_true, hhas]
        exact ⟨fun _ _ => s1, fun _ _ => s2, fun _ _ => trivial, hold_cells hx, fun _ _ => by omega, fun _ _ => trivial, fun _ _ => hrd, fun _ _ => by omega, fun _ _ => trivial, fun _ _ => trivial, fun _ _ => rfl, fun _ _ => ⟨by omega, by omega⟩⟩
      · simp only [wrap_inc pre.length (by omega)]
        exact q1_weak _ _ _ _ 1 3 _ _ rfl rfl _ _ _ ⟨rfl, rfl, rfl, rfl, rfl, trivial⟩ rfl next
    rw [show qryN x = false by rw [qryN]; exact decide_eq_false hkq, Bool.false_and, if_neg (by simp)] at hR
    have next := qs_loop0 (w := w) (some ad) n cap all hn hb ha R hnil l (pre ++ [x]) (by rw [he]; simp) hR
    rw [hlen] at next
    by_cases hkc : x.op = 1
    · have hrd := rd_c x.a x.b (.int .u64 (limb x.v 0 : Nat)) (.int .u64 (limb x.v 1 : Nat)) (.int .u64 (limb x.v 2 : Nat)) (.int .u64 (limb x.v 3 : Nat)) hkc
      refine Ok.rnd (xgo_trim hm (F0.mono w) finB 60 _ _ _ _ _ _ (qs0c ad n cap pre.length (l.length + 1) x.op x.a x.b (limb x.v 0 : Nat) (limb x.v 1 : Nat) (limb x.v 2 : Nat) (limb x.v 3 : Nat) _) (paidCons (fun _ => ⟨?_, ?_⟩) paidNil))
      · simp only [hold_cons, hold_nil, and_true]
        exact ⟨fun _ _ => s1, fun _ _ => s2, fun _ _ => trivial, hold_cells hx, fun _ _ => by omega, fun _ _ => trivial, fun _ _ => hrd, fun _ _ => by omega, fun _ _ => trivial, fun _ _ => trivial⟩
      · simp only [wrap_inc pre.length (by omega)]
        exact q0_weak _ _ _ _ _ _ _ ⟨rfl, rfl, rfl, rfl, rfl, trivial⟩ next
    by_cases hkn : x.op = 5
    · have hrd := rd_n x.a x.b (.int .u64 (limb x.v 0 : Nat)) (.int .u64 (limb x.v 1 : Nat)) (.int .u64 (limb x.v 2 : Nat)) (.int .u64 (limb x.v 3 : Nat)) hkn
      refine Ok.rnd (xgo_trim hm (F0.mono w) finB 60 _ _ _ _ _ _ (qs0n ad n cap pre.length (l.length + 1) x.op x.a x.b (limb x.v 0 : Nat) (limb x.v 1 : Nat) (limb x.v 2 : Nat) (limb x.v 3 : Nat) _) (paidCons (fun _ => ⟨?_, ?_⟩) paidNil))
      · simp only [hold_cons, hold_nil, and_true]
        exact ⟨fun _ _ => s1, fun _ _ => s2, fun _ _ => trivial, hold_cells hx, fun _ _ => by omega, fun _ _ => trivial, fun _ _ => hrd, fun _ _ => by omega, fun _ _ => trivial, fun _ _ => trivial⟩
      · simp only [wrap_inc pre.length (by omega)]
        exact q0_weak _ _ _ _ _ _ _ ⟨rfl, rfl, rfl, rfl, rfl, trivial⟩ next
    by_cases hka : x.op = 6
    · have hrd := rd_a x.a x.b (.int .u64 (limb x.v 0 : Nat)) (.int .u64 (limb x.v 1 : Nat)) (.int .u64 (limb x.v 2 : Nat)) (.int .u64 (limb x.v 3 : Nat)) hka
      refine Ok.rnd (xgo_trim hm (F0.mono w) finB 60 _ _ _ _ _ _ (qs0a ad n cap pre.length (l.length + 1) x.op x.a x.b (limb x.v 0 : Nat) (limb x.v 1 : Nat) (limb x.v 2 : Nat) (limb x.v 3 : Nat) _) (paidCons (fun _ => ⟨?_, ?_⟩) paidNil))
      · simp only [hold_cons, hold_nil, and_true]
        exact ⟨fun _ _ => s1, fun _ _ => s2, fun _ _ => trivial, hold_cells hx, fun _ _ => by omega, fun _ _ => trivial, fun _ _ => hrd, fun _ _ => by omega, fun _ _ => trivial, fun _ _ => trivial⟩
      · simp only [wrap_inc pre.length (by omega)]
        exact q0_weak _ _ _ _ _ _ _ ⟨rfl, rfl, rfl, rfl, rfl, trivial⟩ next
    by_cases hkm : x.op = 7
    · have hrd := rd_m x.a x.b (.int .u64 (limb x.v 0 : Nat)) (.int .u64 (limb x.v 1 : Nat)) (.int .u64 (limb x.v 2 : Nat)) (.int .u64 (limb x.v 3 : Nat)) hkm
      refine Ok.rnd (xgo_trim hm (F0.mono w) finB 60 _ _ _ _ _ _ (qs0m ad n cap pre.length (l.length + 1) x.op x.a x.b (limb x.v 0 : Nat) (limb x.v 1 : Nat) (limb x.v 2 : Nat) (limb x.v 3 : Nat) _) (paidCons (fun _ => ⟨?_, ?_⟩) paidNil))
      · simp only [hold_cons, hold_nil, and_true]
        exact ⟨fun _ _ => s1, fun _ _ => s2, fun _ _ => trivial, hold_cells hx, fun _ _ => by omega, fun _ _ => trivial, fun _ _ => hrd, fun _ _ => by omega, fun _ _ => trivial, fun _ _ => trivial⟩
      · simp only [wrap_inc pre.length (by omega)]
        exact q0_weak _ _ _ _ _ _ _ ⟨rfl, rfl, rfl, rfl, rfl, trivial⟩ next
    by_cases hks : x.op = 8
    · have hrd := rd_s x.a x.b (.int .u64 (limb x.v 0 : Nat)) (.int .u64 (limb x.v 1 : Nat)) (.int .u64 (limb x.v 2 : Nat)) (.int .u64 (limb x.v 3 : Nat)) hks
      refine Ok.rnd (xgo_trim hm (F0.mono w) finB 60 _ _ _ _ _ _ (qs0s ad n cap pre.length (l.length + 1) x.op x.a x.b (limb x.v 0 : Nat) (limb x.v 1 : Nat) (limb x.v 2 : Nat) (limb x.v 3 : Nat) _) (paidCons (fun _ => ⟨?_, ?_⟩) paidNil))
      · simp only [hold_cons, hold_nil, and_true]
        exact ⟨fun _ _ => s1, fun _ _ => s2, fun _ _ => trivial, hold_cells hx, fun _ _ => by omega, fun _ _ => trivial, fun _ _ => hrd, fun _ _ => by omega, fun _ _ => trivial, fun _ _ => trivial⟩
      · simp only [wrap_inc pre.length (by omega)]
        exact q0_weak _ _ _ _ _ _ _ ⟨rfl, rfl, rfl, rfl, rfl, trivial⟩ next
    have hkx : ¬ (1 ≤ x.op ∧ x.op ≤ 8) := by omega
    have hrd := rd_x x.a x.b (.int .u64 (limb x.v 0 : Nat)) (.int .u64 (limb x.v 1 : Nat)) (.int .u64 (limb x.v 2 : Nat)) (.int .u64 (limb x.v 3 : Nat)) hkx
    refine Ok.rnd (xgo_trim hm (F0.mono w) finB 60 _ _ _ _ _ _ (qs0x ad n cap pre.length (l.length + 1) x.op x.a x.b (limb x.v 0 : Nat) (limb x.v 1 : Nat) (limb x.v 2 : Nat) (limb x.v 3 : Nat) _) (paidCons (fun _ => ⟨?_, ?_⟩) paidNil))
    · simp only [hold_cons, hold_nil, and_true]
      exact ⟨fun _ _ => s1, fun _ _ => s2, fun _ _ => trivial, hold_cells hx, fun _ _ => by omega, fun _ _ => trivial, fun _ _ => hrd, fun _ _ => by omega, fun _ _ => trivial, fun _ _ => trivial⟩
    · simp only [wrap_inc pre.length (by omega)]
      exact q0_weak _ _ _ _ _ _ _ ⟨rfl, rfl, rfl, rfl, rfl, trivial⟩ next
theorem queries_ok (oa : Option Addr) (n cap : Nat) (all : List Nd) (hn : all.length = n) (hb : n ≤ 4398046511104) (w : World) (ha : nodesC all = [] ∨ MCells (wmem w) oa (nodesC all)) :
    Calls Try.prog 38 [.slice oa n cap].toArray w (fun E w' => ∃ v, E = .returned v ∧ Res.ok w w' (.r 63 3 (qsN [] all).length (qsC (qsN [] all))) v ∧ Below w.heap.size w w') := by
  refine con_end2 (calls_of_ok (B := bodyOf Try.f38) (n := 39) Try.func38 (by kernel_rfl) rfl rfl (F := F0 w) (fun _ _ h => h) ?_)
  refine xgo_trim hm (F0.mono w) finB 60 _ _ _ _ _ _ (qsS oa n cap) (paidCons (fun _ => ⟨?_, ?_⟩) paidNil)
  · simp only [hold_nil]
  · refine ok_mono (st := stQ0 oa n cap 0) rfl (Ok.loop (all.length + 2) (by kernel_rfl) (qs_loop0 oa n cap all hn hb ha (fun r => ∀ w w' v, r.ok w w' v → (Res.r 63 3 (qsN [] all).length (qsC (qsN [] all))).ok w w' v) ?_ all [] rfl (fun _ _ _ h => h)))
    intro T sz h w1 w2 v hv
    exact h w1 w2 v (nilRow1 w1 w2 T sz v hv)
noncomputable def gQueries : List RV → Option (Res × Prop)
  | [.r n cs] => some (.r 63 3 (qyN cs) (qyL cs), cs = nodesC (unNds cs) ∧ (unNds cs).length = n ∧ n ≤ 4398046511104)
  | [.v (.slice none 0 0)] => some (.r 63 3 0 [], True)
  | _ => none
theorem gQueries_ok (rvs : List RV) (r : Res) (p : Prop) (vs : List Value) (w : World) (hg : gQueries rvs = some (r, p)) (hp : p) (hv : RVs (wmem w) rvs vs) : Calls Try.prog 38 vs.toArray w (fun E w' => ∃ v, E = .returned v ∧ r.ok w w' v ∧ Below w.heap.size w w') := by
  unfold gQueries at hg
  split at hg
  · simp only [Option.some.injEq, Prod.mk.injEq] at hg
    obtain ⟨rfl, rfl⟩ := hg
    obtain ⟨hc, hn, hb⟩ := hp
    match vs, hv with
    | [x], ⟨⟨oa, cap, h1, h2⟩, _⟩ =>
      rw [h1, qyN, qyL, hide_eq]
      rw [hc] at h2
      exact queries_ok oa _ cap _ hn hb w h2
  · simp only [Option.some.injEq, Prod.mk.injEq] at hg
    obtain ⟨rfl, rfl⟩ := hg
    match vs, hv with
    | [x], ⟨h1, _⟩ =>
      rw [h1]
      exact queries_ok none 0 0 [] rfl (by omega) w (.inl rfl)
  · cases hg
noncomputable def K10 : Con Try.prog := K9.add 38 gQueries gQueries_ok
end Go.Proofs.Ytpghmnpbfaichaa
