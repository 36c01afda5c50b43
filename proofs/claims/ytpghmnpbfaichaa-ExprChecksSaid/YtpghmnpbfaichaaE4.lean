/- The steps of nodes. -/
import Derived.Test.YtpghmnpbfaichaaE1
namespace Go.Pl
open Go.Sx
/-- A node as a step. -/
noncomputable def stV (x : Nd) : Value :=
  if x.op = 1 then .iface 102 (.agg #[.int .u64 (limb x.v 0 : Nat), .int .u64 (limb x.v 1 : Nat), .int .u64 (limb x.v 2 : Nat), .int .u64 (limb x.v 3 : Nat)])
  else if 2 ≤ x.op ∧ x.op ≤ 4 then .iface 103 (.agg #[.int .i64 x.op, .int .i64 x.a, .int .i64 x.b])
  else if x.op = 5 then .iface 129 (.agg #[.int .i64 x.a])
  else if x.op = 6 then .iface 131 (.agg #[.int .i64 x.a, .int .i64 x.b])
  else if x.op = 7 then .iface 132 (.agg #[.int .i64 x.a, .int .i64 x.b])
  else if x.op = 8 then .iface 134 (.agg #[.int .i64 x.a, .int .u64 (limb x.v 0 : Nat), .int .u64 (limb x.v 1 : Nat), .int .u64 (limb x.v 2 : Nat), .int .u64 (limb x.v 3 : Nat)])
  else .nilIface
theorem nodesC_cons (x : Nd) (l : List Nd) : nodesC (x :: l) = ndC x ++ nodesC l := by simp [nodesC]
theorem nodesC_append (a b : List Nd) : nodesC (a ++ b) = nodesC a ++ nodesC b := by simp [nodesC]
theorem nodesC_length (l : List Nd) : (nodesC l).length = l.length * 7 := by
  induction l with
  | nil => rfl
  | cons x r ih => rw [nodesC_cons, List.length_append, ih, List.length_cons]; simp [ndC]; omega
/-- The cells of a node among those of all. -/
theorem nodes_at {M : Mem} {ad : Addr} (pre l : List Nd) (x : Nd) (h : MCells M (some ad) (nodesC (pre ++ x :: l))) : MCells M (some (ad.add (pre.length * 7))) (ndC x) := by
  refine MCells.at h _ _ fun j v hj => ?_
  rw [nodesC_append, nodesC_cons, List.getElem?_append_right (by rw [nodesC_length]; omega), nodesC_length, Nat.add_sub_cancel_left, List.getElem?_append_left (List.getElem?_eq_some_iff.1 hj).1]
  exact hj
theorem okN_eq (k : Nat) (x : Nd) : okN k x = (decide (1 ≤ x.op ∧ x.op ≤ 8) && !((usesN x).any (outB (k : Int)))) := by
  rw [okN]
  congr 1
  rw [List.not_any_eq_all_not]
  congr 1
  funext j
  rw [outB, ← decide_not, decide_eq_decide]
  omega
theorem anyO_ints (k : Int) (l : List Int) : anyO k (intsC l) = l.any (outB k) := by rw [anyO, hidQ_eq, unIs_intsC]
end Go.Pl
namespace Go.Proofs.Ytpghmnpbfaichaa
open Go.Sx Go.Pl Go.RowKit
theorem st0c (ad : Addr) (n cap M : Nat) (op a b z0 z1 z2 z3 : Int) (kt : List It) : ((xgo Try.prog X (bodyOf Try.f50) 43 K3 [] 60 [.t, .ld (.agg [.v (.int .i64 op), .v (.int .i64 a), .v (.int .i64 b), .v (.int .u64 z0), .v (.int .u64 z1), .v (.int .u64 z2), .v (.int .u64 z3)]), .ld (.v (.tuple #[.iface 102 (.agg #[.int .u64 z0, .int .u64 z1, .int .u64 z2, .int .u64 z3]), .bool true])), .f, .f, .f] ((.nil)) (.at [0,0,1,0,1,1] :: .rnd [0,0,1,0,1,1] (M + 1) :: kt) ⟨[(13, .v (.int .i64 0)), (12, .v (.int .i64 (n : Int))), (11, .v (.slice (some ad) n cap)), (4, .v (.slice none 0 0)), (2, .v (.slice none 0 0)), (3, .v (.bool false))], []⟩ [] []).map (trims [13, 12, 11, 4, 2, 3])) =
  some [Leaf2.mk [] [fun _ => decide ((0 : Int) < (↑n : Int)) = true,
    fun _ => (0 : Int) ≤ (0 : Int) ∧ (0 : Int) < (↑n : Int),
    fun _ => true = true, fun M => MCells (fun a => M a) (some (if (0 : Nat) = (0 : Nat) then ad else Addr.mk ad.1 (ad.2 + (0 : Nat)) none)) [Value.int IntKind.i64 op, Value.int IntKind.i64 a, Value.int IntKind.i64 b, Value.int IntKind.u64 z0, Value.int IntKind.u64 z1, Value.int IntKind.u64 z2, Value.int IntKind.u64 z3],
    fun _ => (1 : Nat) ≤ (1 : Nat),
    fun _ => (0 : Nat) + (7 : Nat) ≤ (7 : Nat),
    fun _ => True,
    fun _ => rdV op a b (Value.int IntKind.u64 z0) (Value.int IntKind.u64 z1) (Value.int IntKind.u64 z2) (Value.int IntKind.u64 z3) = Value.tuple (Array.mk [Value.iface (102 : Nat) (Value.agg (Array.mk [Value.int IntKind.u64 z0, Value.int IntKind.u64 z1, Value.int IntKind.u64 z2, Value.int IntKind.u64 z3])), Value.bool true]),
    fun _ => false = false,
    fun _ => false = false,
    fun _ => false = false,
    fun _ => (16 : Nat) ≤ (140737488355328 : Nat) ∧ (1 : Nat) ≤ (140737488355328 : Nat)] (It.rnd [(0 : Nat), (0 : Nat), (1 : Nat), (0 : Nat), (1 : Nat), (1 : Nat)] (M + (1 : Nat)) :: kt) (St.mk [((13 : Nat), SV.v (Value.int IntKind.i64 (1 : Int))), ((12 : Nat), SV.v (Value.int IntKind.i64 (↑n : Int))), ((11 : Nat), SV.v (Value.slice (some ad) n cap)), ((4 : Nat), SV.o (3 : Nat)), ((2 : Nat), SV.v (Value.slice none (0 : Nat) (0 : Nat))), ((3 : Nat), SV.v (Value.bool false))] [HO.cells [SV.v (Value.int IntKind.i64 (0 : Int))] (3 : Nat), HO.cells [SV.v (Value.int IntKind.i64 op), SV.v (Value.int IntKind.i64 a), SV.v (Value.int IntKind.i64 b), SV.v (Value.int IntKind.u64 z0), SV.v (Value.int IntKind.u64 z1), SV.v (Value.int IntKind.u64 z2), SV.v (Value.int IntKind.u64 z3)] (43 : Nat), HO.row (82 : Nat) (1 : Nat) (1 : Nat) [SV.v (Value.iface (102 : Nat) (Value.agg (Array.mk [Value.int IntKind.u64 z0, Value.int IntKind.u64 z1, Value.int IntKind.u64 z2, Value.int IntKind.u64 z3])))], HO.row (82 : Nat) (1 : Nat) (1 : Nat) [SV.v (Value.iface (102 : Nat) (Value.agg (Array.mk [Value.int IntKind.u64 z0, Value.int IntKind.u64 z1, Value.int IntKind.u64 z2, Value.int IntKind.u64 z3])))]])]
  := by kernel_rfl

theorem st1c (ad : Addr) (n cap k M : Nat) (op a b z0 z1 z2 z3 : Int) (cs : List Value) (kt : List It) : ((xgo Try.prog X (bodyOf Try.f50) 43 K3 [] 60 [.t, .ld (.agg [.v (.int .i64 op), .v (.int .i64 a), .v (.int .i64 b), .v (.int .u64 z0), .v (.int .u64 z1), .v (.int .u64 z2), .v (.int .u64 z3)]), .ld (.v (.tuple #[.iface 102 (.agg #[.int .u64 z0, .int .u64 z1, .int .u64 z2, .int .u64 z3]), .bool true])), .f, .f, .f] ((.nil)) (.at [0,0,1,0,1,1] :: .rnd [0,0,1,0,1,1] (M + 1) :: kt) ⟨[(13, .v (.int .i64 (k : Int))), (12, .v (.int .i64 (n : Int))), (11, .v (.slice (some ad) n cap)), (4, .o 0), (2, .v (.slice none 0 0)), (3, .v (.bool false))], [.row 82 1 k (mapv cs)]⟩ [] []).map (trims [13, 12, 11, 4, 2, 3])) =
  some [Leaf2.mk [] [fun _ => decide ((↑k : Int) < (↑n : Int)) = true,
    fun _ => (0 : Int) ≤ (↑k : Int) ∧ (↑k : Int) < (↑n : Int),
    fun _ => true = true, fun M => MCells (fun a => M a) (some (if Int.toNat (↑k : Int) * (7 : Nat) = (0 : Nat) then ad else Addr.mk ad.1 (ad.2 + Int.toNat (↑k : Int) * (7 : Nat)) none)) [Value.int IntKind.i64 op, Value.int IntKind.i64 a, Value.int IntKind.i64 b, Value.int IntKind.u64 z0, Value.int IntKind.u64 z1, Value.int IntKind.u64 z2, Value.int IntKind.u64 z3],
    fun _ => (0 : Nat) + (1 : Nat) ≤ (1 : Nat),
    fun _ => (0 : Nat) + (7 : Nat) ≤ (7 : Nat),
    fun _ => True,
    fun _ => rdV op a b (Value.int IntKind.u64 z0) (Value.int IntKind.u64 z1) (Value.int IntKind.u64 z2) (Value.int IntKind.u64 z3) = Value.tuple (Array.mk [Value.iface (102 : Nat) (Value.agg (Array.mk [Value.int IntKind.u64 z0, Value.int IntKind.u64 z1, Value.int IntKind.u64 z2, Value.int IntKind.u64 z3])), Value.bool true]),
    fun _ => false = false,
    fun _ => false = false,
    fun _ => false = false,
    fun _ => (k + (1 : Nat)) * (16 : Nat) ≤ (140737488355328 : Nat) ∧ k + (1 : Nat) ≤ (140737488355328 : Nat)] (It.rnd [(0 : Nat), (0 : Nat), (1 : Nat), (0 : Nat), (1 : Nat), (1 : Nat)] (M + (1 : Nat)) :: kt) (St.mk [((13 : Nat), SV.v (Value.int IntKind.i64 (IntKind.wrap IntKind.i64 ((↑k : Int) + (1 : Int))))), ((12 : Nat), SV.v (Value.int IntKind.i64 (↑n : Int))), ((11 : Nat), SV.v (Value.slice (some ad) n cap)), ((4 : Nat), SV.o (4 : Nat)), ((2 : Nat), SV.v (Value.slice none (0 : Nat) (0 : Nat))), ((3 : Nat), SV.v (Value.bool false))] [HO.gone, HO.cells [SV.v (Value.int IntKind.i64 (↑k : Int))] (3 : Nat), HO.cells [SV.v (Value.int IntKind.i64 op), SV.v (Value.int IntKind.i64 a), SV.v (Value.int IntKind.i64 b), SV.v (Value.int IntKind.u64 z0), SV.v (Value.int IntKind.u64 z1), SV.v (Value.int IntKind.u64 z2), SV.v (Value.int IntKind.u64 z3)] (43 : Nat), HO.row (82 : Nat) (1 : Nat) (1 : Nat) [SV.v (Value.iface (102 : Nat) (Value.agg (Array.mk [Value.int IntKind.u64 z0, Value.int IntKind.u64 z1, Value.int IntKind.u64 z2, Value.int IntKind.u64 z3])))], HO.row (82 : Nat) (1 : Nat) (k + (1 : Nat)) (mapv cs ++ [SV.v (Value.iface (102 : Nat) (Value.agg (Array.mk [Value.int IntKind.u64 z0, Value.int IntKind.u64 z1, Value.int IntKind.u64 z2, Value.int IntKind.u64 z3])))])])]
  := by kernel_rfl

theorem st0q (ad : Addr) (n cap M : Nat) (op a b z0 z1 z2 z3 : Int) (kt : List It) : ((xgo Try.prog X (bodyOf Try.f50) 43 K3 [] 60 [.t, .ld (.agg [.v (.int .i64 op), .v (.int .i64 a), .v (.int .i64 b), .v (.int .u64 z0), .v (.int .u64 z1), .v (.int .u64 z2), .v (.int .u64 z3)]), .ld (.v (.tuple #[.iface 103 (.agg #[.int .i64 op, .int .i64 a, .int .i64 b]), .bool true])), .f, .f, .f] ((.nil)) (.at [0,0,1,0,1,1] :: .rnd [0,0,1,0,1,1] (M + 1) :: kt) ⟨[(13, .v (.int .i64 0)), (12, .v (.int .i64 (n : Int))), (11, .v (.slice (some ad) n cap)), (4, .v (.slice none 0 0)), (2, .v (.slice none 0 0)), (3, .v (.bool false))], []⟩ [] []).map (trims [13, 12, 11, 4, 2, 3])) =
  some [Leaf2.mk [] [fun _ => decide ((0 : Int) < (↑n : Int)) = true,
    fun _ => (0 : Int) ≤ (0 : Int) ∧ (0 : Int) < (↑n : Int),
    fun _ => true = true, fun M => MCells (fun a => M a) (some (if (0 : Nat) = (0 : Nat) then ad else Addr.mk ad.1 (ad.2 + (0 : Nat)) none)) [Value.int IntKind.i64 op, Value.int IntKind.i64 a, Value.int IntKind.i64 b, Value.int IntKind.u64 z0, Value.int IntKind.u64 z1, Value.int IntKind.u64 z2, Value.int IntKind.u64 z3],
    fun _ => (1 : Nat) ≤ (1 : Nat),
    fun _ => (0 : Nat) + (7 : Nat) ≤ (7 : Nat),
    fun _ => True,
    fun _ => rdV op a b (Value.int IntKind.u64 z0) (Value.int IntKind.u64 z1) (Value.int IntKind.u64 z2) (Value.int IntKind.u64 z3) = Value.tuple (Array.mk [Value.iface (103 : Nat) (Value.agg (Array.mk [Value.int IntKind.i64 op, Value.int IntKind.i64 a, Value.int IntKind.i64 b])), Value.bool true]),
    fun _ => false = false,
    fun _ => false = false,
    fun _ => false = false,
    fun _ => (16 : Nat) ≤ (140737488355328 : Nat) ∧ (1 : Nat) ≤ (140737488355328 : Nat)] (It.rnd [(0 : Nat), (0 : Nat), (1 : Nat), (0 : Nat), (1 : Nat), (1 : Nat)] (M + (1 : Nat)) :: kt) (St.mk [((13 : Nat), SV.v (Value.int IntKind.i64 (1 : Int))), ((12 : Nat), SV.v (Value.int IntKind.i64 (↑n : Int))), ((11 : Nat), SV.v (Value.slice (some ad) n cap)), ((4 : Nat), SV.o (3 : Nat)), ((2 : Nat), SV.v (Value.slice none (0 : Nat) (0 : Nat))), ((3 : Nat), SV.v (Value.bool false))] [HO.cells [SV.v (Value.int IntKind.i64 (0 : Int))] (3 : Nat), HO.cells [SV.v (Value.int IntKind.i64 op), SV.v (Value.int IntKind.i64 a), SV.v (Value.int IntKind.i64 b), SV.v (Value.int IntKind.u64 z0), SV.v (Value.int IntKind.u64 z1), SV.v (Value.int IntKind.u64 z2), SV.v (Value.int IntKind.u64 z3)] (43 : Nat), HO.row (82 : Nat) (1 : Nat) (1 : Nat) [SV.v (Value.iface (103 : Nat) (Value.agg (Array.mk [Value.int IntKind.i64 op, Value.int IntKind.i64 a, Value.int IntKind.i64 b])))], HO.row (82 : Nat) (1 : Nat) (1 : Nat) [SV.v (Value.iface (103 : Nat) (Value.agg (Array.mk [Value.int IntKind.i64 op, Value.int IntKind.i64 a, Value.int IntKind.i64 b])))]])]
  := by kernel_rfl

theorem st1q (ad : Addr) (n cap k M : Nat) (op a b z0 z1 z2 z3 : Int) (cs : List Value) (kt : List It) : ((xgo Try.prog X (bodyOf Try.f50) 43 K3 [] 60 [.t, .ld (.agg [.v (.int .i64 op), .v (.int .i64 a), .v (.int .i64 b), .v (.int .u64 z0), .v (.int .u64 z1), .v (.int .u64 z2), .v (.int .u64 z3)]), .ld (.v (.tuple #[.iface 103 (.agg #[.int .i64 op, .int .i64 a, .int .i64 b]), .bool true])), .f, .f, .f] ((.nil)) (.at [0,0,1,0,1,1] :: .rnd [0,0,1,0,1,1] (M + 1) :: kt) ⟨[(13, .v (.int .i64 (k : Int))), (12, .v (.int .i64 (n : Int))), (11, .v (.slice (some ad) n cap)), (4, .o 0), (2, .v (.slice none 0 0)), (3, .v (.bool false))], [.row 82 1 k (mapv cs)]⟩ [] []).map (trims [13, 12, 11, 4, 2, 3])) =
  some [Leaf2.mk [] [fun _ => decide ((↑k : Int) < (↑n : Int)) = true,
    fun _ => (0 : Int) ≤ (↑k : Int) ∧ (↑k : Int) < (↑n : Int),
    fun _ => true = true, fun M => MCells (fun a => M a) (some (if Int.toNat (↑k : Int) * (7 : Nat) = (0 : Nat) then ad else Addr.mk ad.1 (ad.2 + Int.toNat (↑k : Int) * (7 : Nat)) none)) [Value.int IntKind.i64 op, Value.int IntKind.i64 a, Value.int IntKind.i64 b, Value.int IntKind.u64 z0, Value.int IntKind.u64 z1, Value.int IntKind.u64 z2, Value.int IntKind.u64 z3],
    fun _ => (0 : Nat) + (1 : Nat) ≤ (1 : Nat),
    fun _ => (0 : Nat) + (7 : Nat) ≤ (7 : Nat),
    fun _ => True,
    fun _ => rdV op a b (Value.int IntKind.u64 z0) (Value.int IntKind.u64 z1) (Value.int IntKind.u64 z2) (Value.int IntKind.u64 z3) = Value.tuple (Array.mk [Value.iface (103 : Nat) (Value.agg (Array.mk [Value.int IntKind.i64 op, Value.int IntKind.i64 a, Value.int IntKind.i64 b])), Value.bool true]),
    fun _ => false = false,
    fun _ => false = false,
    fun _ => false = false,
    fun _ => (k + (1 : Nat)) * (16 : Nat) ≤ (140737488355328 : Nat) ∧ k + (1 : Nat) ≤ (140737488355328 : Nat)] (It.rnd [(0 : Nat), (0 : Nat), (1 : Nat), (0 : Nat), (1 : Nat), (1 : Nat)] (M + (1 : Nat)) :: kt) (St.mk [((13 : Nat), SV.v (Value.int IntKind.i64 (IntKind.wrap IntKind.i64 ((↑k : Int) + (1 : Int))))), ((12 : Nat), SV.v (Value.int IntKind.i64 (↑n : Int))), ((11 : Nat), SV.v (Value.slice (some ad) n cap)), ((4 : Nat), SV.o (4 : Nat)), ((2 : Nat), SV.v (Value.slice none (0 : Nat) (0 : Nat))), ((3 : Nat), SV.v (Value.bool false))] [HO.gone, HO.cells [SV.v (Value.int IntKind.i64 (↑k : Int))] (3 : Nat), HO.cells [SV.v (Value.int IntKind.i64 op), SV.v (Value.int IntKind.i64 a), SV.v (Value.int IntKind.i64 b), SV.v (Value.int IntKind.u64 z0), SV.v (Value.int IntKind.u64 z1), SV.v (Value.int IntKind.u64 z2), SV.v (Value.int IntKind.u64 z3)] (43 : Nat), HO.row (82 : Nat) (1 : Nat) (1 : Nat) [SV.v (Value.iface (103 : Nat) (Value.agg (Array.mk [Value.int IntKind.i64 op, Value.int IntKind.i64 a, Value.int IntKind.i64 b])))], HO.row (82 : Nat) (1 : Nat) (k + (1 : Nat)) (mapv cs ++ [SV.v (Value.iface (103 : Nat) (Value.agg (Array.mk [Value.int IntKind.i64 op, Value.int IntKind.i64 a, Value.int IntKind.i64 b])))])])]
  := by kernel_rfl

theorem st1n (ad : Addr) (n cap k M : Nat) (op a b z0 z1 z2 z3 : Int) (cs : List Value) (kt : List It) : ((xgo Try.prog X (bodyOf Try.f50) 43 K3 [] 60 [.t, .ld (.agg [.v (.int .i64 op), .v (.int .i64 a), .v (.int .i64 b), .v (.int .u64 z0), .v (.int .u64 z1), .v (.int .u64 z2), .v (.int .u64 z3)]), .ld (.v (.tuple #[.iface 129 (.agg #[.int .i64 a]), .bool true])), .f, .t, .f] ((.nil)) (.at [0,0,1,0,1,1] :: .rnd [0,0,1,0,1,1] (M + 1) :: kt) ⟨[(13, .v (.int .i64 (k : Int))), (12, .v (.int .i64 (n : Int))), (11, .v (.slice (some ad) n cap)), (4, .o 0), (2, .v (.slice none 0 0)), (3, .v (.bool false))], [.row 82 1 k (mapv cs)]⟩ [] []).map (trims [13, 12, 11, 4, 2, 3])) =
  some [Leaf2.mk [] [fun _ => decide ((↑k : Int) < (↑n : Int)) = true,
    fun _ => (0 : Int) ≤ (↑k : Int) ∧ (↑k : Int) < (↑n : Int),
    fun _ => true = true, fun M => MCells (fun a => M a) (some (if Int.toNat (↑k : Int) * (7 : Nat) = (0 : Nat) then ad else Addr.mk ad.1 (ad.2 + Int.toNat (↑k : Int) * (7 : Nat)) none)) [Value.int IntKind.i64 op, Value.int IntKind.i64 a, Value.int IntKind.i64 b, Value.int IntKind.u64 z0, Value.int IntKind.u64 z1, Value.int IntKind.u64 z2, Value.int IntKind.u64 z3],
    fun _ => (0 : Nat) + (1 : Nat) ≤ (1 : Nat),
    fun _ => (0 : Nat) + (7 : Nat) ≤ (7 : Nat),
    fun _ => True,
    fun _ => rdV op a b (Value.int IntKind.u64 z0) (Value.int IntKind.u64 z1) (Value.int IntKind.u64 z2) (Value.int IntKind.u64 z3) = Value.tuple (Array.mk [Value.iface (129 : Nat) (Value.agg (Array.mk [Value.int IntKind.i64 a])), Value.bool true]),
    fun _ => false = false,
    fun _ => true = true,
    fun _ => True,
    fun _ => [SV.v (Value.int IntKind.i64 a)] = [SV.v (Value.int IntKind.i64 a)],
    fun _ => [SV.v (Value.int IntKind.i64 (↑k : Int))] = [SV.v (Value.int IntKind.i64 (↑k : Int))],
    fun _ => unv [SV.v (Value.int IntKind.i64 a)] = intsC (unIs (unv [SV.v (Value.int IntKind.i64 a)])) ∧ (1 : Nat) = (1 : Nat) ∧ (1 : Nat) ≤ (4611686018427387903 : Nat),
    fun _ => anyO (↑k : Int) (unv [SV.v (Value.int IntKind.i64 a)]) = false,
    fun _ => (k + (1 : Nat)) * (16 : Nat) ≤ (140737488355328 : Nat) ∧ k + (1 : Nat) ≤ (140737488355328 : Nat)] (It.rnd [(0 : Nat), (0 : Nat), (1 : Nat), (0 : Nat), (1 : Nat), (1 : Nat)] (M + (1 : Nat)) :: kt) (St.mk [((13 : Nat), SV.v (Value.int IntKind.i64 (IntKind.wrap IntKind.i64 ((↑k : Int) + (1 : Int))))), ((12 : Nat), SV.v (Value.int IntKind.i64 (↑n : Int))), ((11 : Nat), SV.v (Value.slice (some ad) n cap)), ((4 : Nat), SV.o (5 : Nat)), ((2 : Nat), SV.v (Value.slice none (0 : Nat) (0 : Nat))), ((3 : Nat), SV.v (Value.bool false))] [HO.gone, HO.cells [SV.v (Value.int IntKind.i64 (↑k : Int))] (3 : Nat), HO.cells [SV.v (Value.int IntKind.i64 op), SV.v (Value.int IntKind.i64 a), SV.v (Value.int IntKind.i64 b), SV.v (Value.int IntKind.u64 z0), SV.v (Value.int IntKind.u64 z1), SV.v (Value.int IntKind.u64 z2), SV.v (Value.int IntKind.u64 z3)] (43 : Nat), HO.row (3 : Nat) (1 : Nat) (1 : Nat) [SV.v (Value.int IntKind.i64 a)], HO.row (82 : Nat) (1 : Nat) (1 : Nat) [SV.v (Value.iface (129 : Nat) (Value.agg (Array.mk [Value.int IntKind.i64 a])))], HO.row (82 : Nat) (1 : Nat) (k + (1 : Nat)) (mapv cs ++ [SV.v (Value.iface (129 : Nat) (Value.agg (Array.mk [Value.int IntKind.i64 a])))])])]
  := by kernel_rfl

theorem se1n (ad : Addr) (n cap k M : Nat) (op a b z0 z1 z2 z3 : Int) (cs : List Value) : (((xgo Try.prog X (bodyOf Try.f50) 43 K3 [] 60 [.t, .ld (.agg [.v (.int .i64 op), .v (.int .i64 a), .v (.int .i64 b), .v (.int .u64 z0), .v (.int .u64 z1), .v (.int .u64 z2), .v (.int .u64 z3)]), .ld (.v (.tuple #[.iface 129 (.agg #[.int .i64 a]), .bool true])), .f, .t, .t] ((.nil)) [.at [0,0,1,0,1,1], .rnd [0,0,1,0,1,1] (M + 1), .blk 0, .at [1,1,1]] ⟨[(13, .v (.int .i64 (k : Int))), (12, .v (.int .i64 (n : Int))), (11, .v (.slice (some ad) n cap)), (4, .o 0), (2, .v (.slice none 0 0)), (3, .v (.bool false))], [.row 82 1 k (mapv cs)]⟩ [] []).bind (ends Try.prog Try.f50.results.toList)).bind plainE) =
  some [EndP.mk [] [fun _ => decide ((↑k : Int) < (↑n : Int)) = true,
    fun _ => (0 : Int) ≤ (↑k : Int) ∧ (↑k : Int) < (↑n : Int),
    fun _ => true = true, fun M => MCells (fun a => M a) (some (if Int.toNat (↑k : Int) * (7 : Nat) = (0 : Nat) then ad else Addr.mk ad.1 (ad.2 + Int.toNat (↑k : Int) * (7 : Nat)) none)) [Value.int IntKind.i64 op, Value.int IntKind.i64 a, Value.int IntKind.i64 b, Value.int IntKind.u64 z0, Value.int IntKind.u64 z1, Value.int IntKind.u64 z2, Value.int IntKind.u64 z3],
    fun _ => (0 : Nat) + (1 : Nat) ≤ (1 : Nat),
    fun _ => (0 : Nat) + (7 : Nat) ≤ (7 : Nat),
    fun _ => True,
    fun _ => rdV op a b (Value.int IntKind.u64 z0) (Value.int IntKind.u64 z1) (Value.int IntKind.u64 z2) (Value.int IntKind.u64 z3) = Value.tuple (Array.mk [Value.iface (129 : Nat) (Value.agg (Array.mk [Value.int IntKind.i64 a])), Value.bool true]),
    fun _ => false = false,
    fun _ => true = true,
    fun _ => True,
    fun _ => [SV.v (Value.int IntKind.i64 a)] = [SV.v (Value.int IntKind.i64 a)],
    fun _ => [SV.v (Value.int IntKind.i64 (↑k : Int))] = [SV.v (Value.int IntKind.i64 (↑k : Int))],
    fun _ => unv [SV.v (Value.int IntKind.i64 a)] = intsC (unIs (unv [SV.v (Value.int IntKind.i64 a)])) ∧ (1 : Nat) = (1 : Nat) ∧ (1 : Nat) ≤ (4611686018427387903 : Nat),
    fun _ => anyO (↑k : Int) (unv [SV.v (Value.int IntKind.i64 a)]) = true] (Res.v (Value.tuple (Array.mk [Value.slice none (0 : Nat) (0 : Nat), Value.bool false])))]
  := by kernel_rfl

theorem se0n (ad : Addr) (n cap M : Nat) (op a b z0 z1 z2 z3 : Int) : (((xgo Try.prog X (bodyOf Try.f50) 43 K3 [] 60 [.t, .ld (.agg [.v (.int .i64 op), .v (.int .i64 a), .v (.int .i64 b), .v (.int .u64 z0), .v (.int .u64 z1), .v (.int .u64 z2), .v (.int .u64 z3)]), .ld (.v (.tuple #[.iface 129 (.agg #[.int .i64 a]), .bool true])), .f, .t, .t] ((.nil)) [.at [0,0,1,0,1,1], .rnd [0,0,1,0,1,1] (M + 1), .blk 0, .at [1,1,1]] ⟨[(13, .v (.int .i64 0)), (12, .v (.int .i64 (n : Int))), (11, .v (.slice (some ad) n cap)), (4, .v (.slice none 0 0)), (2, .v (.slice none 0 0)), (3, .v (.bool false))], []⟩ [] []).bind (ends Try.prog Try.f50.results.toList)).bind plainE) =
  some [EndP.mk [] [fun _ => decide ((0 : Int) < (↑n : Int)) = true,
    fun _ => (0 : Int) ≤ (0 : Int) ∧ (0 : Int) < (↑n : Int),
    fun _ => true = true, fun M => MCells (fun a => M a) (some (if (0 : Nat) = (0 : Nat) then ad else Addr.mk ad.1 (ad.2 + (0 : Nat)) none)) [Value.int IntKind.i64 op, Value.int IntKind.i64 a, Value.int IntKind.i64 b, Value.int IntKind.u64 z0, Value.int IntKind.u64 z1, Value.int IntKind.u64 z2, Value.int IntKind.u64 z3],
    fun _ => (1 : Nat) ≤ (1 : Nat),
    fun _ => (0 : Nat) + (7 : Nat) ≤ (7 : Nat),
    fun _ => True,
    fun _ => rdV op a b (Value.int IntKind.u64 z0) (Value.int IntKind.u64 z1) (Value.int IntKind.u64 z2) (Value.int IntKind.u64 z3) = Value.tuple (Array.mk [Value.iface (129 : Nat) (Value.agg (Array.mk [Value.int IntKind.i64 a])), Value.bool true]),
    fun _ => false = false,
    fun _ => true = true,
    fun _ => True,
    fun _ => [SV.v (Value.int IntKind.i64 a)] = [SV.v (Value.int IntKind.i64 a)],
    fun _ => [SV.v (Value.int IntKind.i64 (0 : Int))] = [SV.v (Value.int IntKind.i64 (0 : Int))],
    fun _ => unv [SV.v (Value.int IntKind.i64 a)] = intsC (unIs (unv [SV.v (Value.int IntKind.i64 a)])) ∧ (1 : Nat) = (1 : Nat) ∧ (1 : Nat) ≤ (4611686018427387903 : Nat),
    fun _ => anyO (0 : Int) (unv [SV.v (Value.int IntKind.i64 a)]) = true] (Res.v (Value.tuple (Array.mk [Value.slice none (0 : Nat) (0 : Nat), Value.bool false])))]
  := by kernel_rfl

theorem st1a (ad : Addr) (n cap k M : Nat) (op a b z0 z1 z2 z3 : Int) (cs : List Value) (kt : List It) : ((xgo Try.prog X (bodyOf Try.f50) 43 K3 [] 60 [.t, .ld (.agg [.v (.int .i64 op), .v (.int .i64 a), .v (.int .i64 b), .v (.int .u64 z0), .v (.int .u64 z1), .v (.int .u64 z2), .v (.int .u64 z3)]), .ld (.v (.tuple #[.iface 131 (.agg #[.int .i64 a, .int .i64 b]), .bool true])), .f, .t, .f] ((.nil)) (.at [0,0,1,0,1,1] :: .rnd [0,0,1,0,1,1] (M + 1) :: kt) ⟨[(13, .v (.int .i64 (k : Int))), (12, .v (.int .i64 (n : Int))), (11, .v (.slice (some ad) n cap)), (4, .o 0), (2, .v (.slice none 0 0)), (3, .v (.bool false))], [.row 82 1 k (mapv cs)]⟩ [] []).map (trims [13, 12, 11, 4, 2, 3])) =
  some [Leaf2.mk [] [fun _ => decide ((↑k : Int) < (↑n : Int)) = true,
    fun _ => (0 : Int) ≤ (↑k : Int) ∧ (↑k : Int) < (↑n : Int),
    fun _ => true = true, fun M => MCells (fun a => M a) (some (if Int.toNat (↑k : Int) * (7 : Nat) = (0 : Nat) then ad else Addr.mk ad.1 (ad.2 + Int.toNat (↑k : Int) * (7 : Nat)) none)) [Value.int IntKind.i64 op, Value.int IntKind.i64 a, Value.int IntKind.i64 b, Value.int IntKind.u64 z0, Value.int IntKind.u64 z1, Value.int IntKind.u64 z2, Value.int IntKind.u64 z3],
    fun _ => (0 : Nat) + (1 : Nat) ≤ (1 : Nat),
    fun _ => (0 : Nat) + (7 : Nat) ≤ (7 : Nat),
    fun _ => True,
    fun _ => rdV op a b (Value.int IntKind.u64 z0) (Value.int IntKind.u64 z1) (Value.int IntKind.u64 z2) (Value.int IntKind.u64 z3) = Value.tuple (Array.mk [Value.iface (131 : Nat) (Value.agg (Array.mk [Value.int IntKind.i64 a, Value.int IntKind.i64 b])), Value.bool true]),
    fun _ => false = false,
    fun _ => true = true,
    fun _ => True,
    fun _ => [SV.v (Value.int IntKind.i64 a), SV.v (Value.int IntKind.i64 b)] = [SV.v (Value.int IntKind.i64 a), SV.v (Value.int IntKind.i64 b)],
    fun _ => [SV.v (Value.int IntKind.i64 (↑k : Int))] = [SV.v (Value.int IntKind.i64 (↑k : Int))],
    fun _ => unv [SV.v (Value.int IntKind.i64 a), SV.v (Value.int IntKind.i64 b)] = intsC (unIs (unv [SV.v (Value.int IntKind.i64 a), SV.v (Value.int IntKind.i64 b)])) ∧ (2 : Nat) = (2 : Nat) ∧ (2 : Nat) ≤ (4611686018427387903 : Nat),
    fun _ => anyO (↑k : Int) (unv [SV.v (Value.int IntKind.i64 a), SV.v (Value.int IntKind.i64 b)]) = false,
    fun _ => (k + (1 : Nat)) * (16 : Nat) ≤ (140737488355328 : Nat) ∧ k + (1 : Nat) ≤ (140737488355328 : Nat)] (It.rnd [(0 : Nat), (0 : Nat), (1 : Nat), (0 : Nat), (1 : Nat), (1 : Nat)] (M + (1 : Nat)) :: kt) (St.mk [((13 : Nat), SV.v (Value.int IntKind.i64 (IntKind.wrap IntKind.i64 ((↑k : Int) + (1 : Int))))), ((12 : Nat), SV.v (Value.int IntKind.i64 (↑n : Int))), ((11 : Nat), SV.v (Value.slice (some ad) n cap)), ((4 : Nat), SV.o (5 : Nat)), ((2 : Nat), SV.v (Value.slice none (0 : Nat) (0 : Nat))), ((3 : Nat), SV.v (Value.bool false))] [HO.gone, HO.cells [SV.v (Value.int IntKind.i64 (↑k : Int))] (3 : Nat), HO.cells [SV.v (Value.int IntKind.i64 op), SV.v (Value.int IntKind.i64 a), SV.v (Value.int IntKind.i64 b), SV.v (Value.int IntKind.u64 z0), SV.v (Value.int IntKind.u64 z1), SV.v (Value.int IntKind.u64 z2), SV.v (Value.int IntKind.u64 z3)] (43 : Nat), HO.row (3 : Nat) (1 : Nat) (2 : Nat) [SV.v (Value.int IntKind.i64 a), SV.v (Value.int IntKind.i64 b)], HO.row (82 : Nat) (1 : Nat) (1 : Nat) [SV.v (Value.iface (131 : Nat) (Value.agg (Array.mk [Value.int IntKind.i64 a, Value.int IntKind.i64 b])))], HO.row (82 : Nat) (1 : Nat) (k + (1 : Nat)) (mapv cs ++ [SV.v (Value.iface (131 : Nat) (Value.agg (Array.mk [Value.int IntKind.i64 a, Value.int IntKind.i64 b])))])])]
  := by kernel_rfl

theorem se1a (ad : Addr) (n cap k M : Nat) (op a b z0 z1 z2 z3 : Int) (cs : List Value) : (((xgo Try.prog X (bodyOf Try.f50) 43 K3 [] 60 [.t, .ld (.agg [.v (.int .i64 op), .v (.int .i64 a), .v (.int .i64 b), .v (.int .u64 z0), .v (.int .u64 z1), .v (.int .u64 z2), .v (.int .u64 z3)]), .ld (.v (.tuple #[.iface 131 (.agg #[.int .i64 a, .int .i64 b]), .bool true])), .f, .t, .t] ((.nil)) [.at [0,0,1,0,1,1], .rnd [0,0,1,0,1,1] (M + 1), .blk 0, .at [1,1,1]] ⟨[(13, .v (.int .i64 (k : Int))), (12, .v (.int .i64 (n : Int))), (11, .v (.slice (some ad) n cap)), (4, .o 0), (2, .v (.slice none 0 0)), (3, .v (.bool false))], [.row 82 1 k (mapv cs)]⟩ [] []).bind (ends Try.prog Try.f50.results.toList)).bind plainE) =
  some [EndP.mk [] [fun _ => decide ((↑k : Int) < (↑n : Int)) = true,
    fun _ => (0 : Int) ≤ (↑k : Int) ∧ (↑k : Int) < (↑n : Int),
    fun _ => true = true, fun M => MCells (fun a => M a) (some (if Int.toNat (↑k : Int) * (7 : Nat) = (0 : Nat) then ad else Addr.mk ad.1 (ad.2 + Int.toNat (↑k : Int) * (7 : Nat)) none)) [Value.int IntKind.i64 op, Value.int IntKind.i64 a, Value.int IntKind.i64 b, Value.int IntKind.u64 z0, Value.int IntKind.u64 z1, Value.int IntKind.u64 z2, Value.int IntKind.u64 z3],
    fun _ => (0 : Nat) + (1 : Nat) ≤ (1 : Nat),
    fun _ => (0 : Nat) + (7 : Nat) ≤ (7 : Nat),
    fun _ => True,
    fun _ => rdV op a b (Value.int IntKind.u64 z0) (Value.int IntKind.u64 z1) (Value.int IntKind.u64 z2) (Value.int IntKind.u64 z3) = Value.tuple (Array.mk [Value.iface (131 : Nat) (Value.agg (Array.mk [Value.int IntKind.i64 a, Value.int IntKind.i64 b])), Value.bool true]),
    fun _ => false = false,
    fun _ => true = true,
    fun _ => True,
    fun _ => [SV.v (Value.int IntKind.i64 a), SV.v (Value.int IntKind.i64 b)] = [SV.v (Value.int IntKind.i64 a), SV.v (Value.int IntKind.i64 b)],
    fun _ => [SV.v (Value.int IntKind.i64 (↑k : Int))] = [SV.v (Value.int IntKind.i64 (↑k : Int))],
    fun _ => unv [SV.v (Value.int IntKind.i64 a), SV.v (Value.int IntKind.i64 b)] = intsC (unIs (unv [SV.v (Value.int IntKind.i64 a), SV.v (Value.int IntKind.i64 b)])) ∧ (2 : Nat) = (2 : Nat) ∧ (2 : Nat) ≤ (4611686018427387903 : Nat),
    fun _ => anyO (↑k : Int) (unv [SV.v (Value.int IntKind.i64 a), SV.v (Value.int IntKind.i64 b)]) = true] (Res.v (Value.tuple (Array.mk [Value.slice none (0 : Nat) (0 : Nat), Value.bool false])))]
  := by kernel_rfl

theorem se0a (ad : Addr) (n cap M : Nat) (op a b z0 z1 z2 z3 : Int) : (((xgo Try.prog X (bodyOf Try.f50) 43 K3 [] 60 [.t, .ld (.agg [.v (.int .i64 op), .v (.int .i64 a), .v (.int .i64 b), .v (.int .u64 z0), .v (.int .u64 z1), .v (.int .u64 z2), .v (.int .u64 z3)]), .ld (.v (.tuple #[.iface 131 (.agg #[.int .i64 a, .int .i64 b]), .bool true])), .f, .t, .t] ((.nil)) [.at [0,0,1,0,1,1], .rnd [0,0,1,0,1,1] (M + 1), .blk 0, .at [1,1,1]] ⟨[(13, .v (.int .i64 0)), (12, .v (.int .i64 (n : Int))), (11, .v (.slice (some ad) n cap)), (4, .v (.slice none 0 0)), (2, .v (.slice none 0 0)), (3, .v (.bool false))], []⟩ [] []).bind (ends Try.prog Try.f50.results.toList)).bind plainE) =
  some [EndP.mk [] [fun _ => decide ((0 : Int) < (↑n : Int)) = true,
    fun _ => (0 : Int) ≤ (0 : Int) ∧ (0 : Int) < (↑n : Int),
    fun _ => true = true, fun M => MCells (fun a => M a) (some (if (0 : Nat) = (0 : Nat) then ad else Addr.mk ad.1 (ad.2 + (0 : Nat)) none)) [Value.int IntKind.i64 op, Value.int IntKind.i64 a, Value.int IntKind.i64 b, Value.int IntKind.u64 z0, Value.int IntKind.u64 z1, Value.int IntKind.u64 z2, Value.int IntKind.u64 z3],
    fun _ => (1 : Nat) ≤ (1 : Nat),
    fun _ => (0 : Nat) + (7 : Nat) ≤ (7 : Nat),
    fun _ => True,
    fun _ => rdV op a b (Value.int IntKind.u64 z0) (Value.int IntKind.u64 z1) (Value.int IntKind.u64 z2) (Value.int IntKind.u64 z3) = Value.tuple (Array.mk [Value.iface (131 : Nat) (Value.agg (Array.mk [Value.int IntKind.i64 a, Value.int IntKind.i64 b])), Value.bool true]),
    fun _ => false = false,
    fun _ => true = true,
    fun _ => True,
    fun _ => [SV.v (Value.int IntKind.i64 a), SV.v (Value.int IntKind.i64 b)] = [SV.v (Value.int IntKind.i64 a), SV.v (Value.int IntKind.i64 b)],
    fun _ => [SV.v (Value.int IntKind.i64 (0 : Int))] = [SV.v (Value.int IntKind.i64 (0 : Int))],
    fun _ => unv [SV.v (Value.int IntKind.i64 a), SV.v (Value.int IntKind.i64 b)] = intsC (unIs (unv [SV.v (Value.int IntKind.i64 a), SV.v (Value.int IntKind.i64 b)])) ∧ (2 : Nat) = (2 : Nat) ∧ (2 : Nat) ≤ (4611686018427387903 : Nat),
    fun _ => anyO (0 : Int) (unv [SV.v (Value.int IntKind.i64 a), SV.v (Value.int IntKind.i64 b)]) = true] (Res.v (Value.tuple (Array.mk [Value.slice none (0 : Nat) (0 : Nat), Value.bool false])))]
  := by kernel_rfl

theorem st1m (ad : Addr) (n cap k M : Nat) (op a b z0 z1 z2 z3 : Int) (cs : List Value) (kt : List It) : ((xgo Try.prog X (bodyOf Try.f50) 43 K3 [] 60 [.t, .ld (.agg [.v (.int .i64 op), .v (.int .i64 a), .v (.int .i64 b), .v (.int .u64 z0), .v (.int .u64 z1), .v (.int .u64 z2), .v (.int .u64 z3)]), .ld (.v (.tuple #[.iface 132 (.agg #[.int .i64 a, .int .i64 b]), .bool true])), .f, .t, .f] ((.nil)) (.at [0,0,1,0,1,1] :: .rnd [0,0,1,0,1,1] (M + 1) :: kt) ⟨[(13, .v (.int .i64 (k : Int))), (12, .v (.int .i64 (n : Int))), (11, .v (.slice (some ad) n cap)), (4, .o 0), (2, .v (.slice none 0 0)), (3, .v (.bool false))], [.row 82 1 k (mapv cs)]⟩ [] []).map (trims [13, 12, 11, 4, 2, 3])) =
  some [Leaf2.mk [] [fun _ => decide ((↑k : Int) < (↑n : Int)) = true,
    fun _ => (0 : Int) ≤ (↑k : Int) ∧ (↑k : Int) < (↑n : Int),
    fun _ => true = true, fun M => MCells (fun a => M a) (some (if Int.toNat (↑k : Int) * (7 : Nat) = (0 : Nat) then ad else Addr.mk ad.1 (ad.2 + Int.toNat (↑k : Int) * (7 : Nat)) none)) [Value.int IntKind.i64 op, Value.int IntKind.i64 a, Value.int IntKind.i64 b, Value.int IntKind.u64 z0, Value.int IntKind.u64 z1, Value.int IntKind.u64 z2, Value.int IntKind.u64 z3],
    fun _ => (0 : Nat) + (1 : Nat) ≤ (1 : Nat),
    fun _ => (0 : Nat) + (7 : Nat) ≤ (7 : Nat),
    fun _ => True,
    fun _ => rdV op a b (Value.int IntKind.u64 z0) (Value.int IntKind.u64 z1) (Value.int IntKind.u64 z2) (Value.int IntKind.u64 z3) = Value.tuple (Array.mk [Value.iface (132 : Nat) (Value.agg (Array.mk [Value.int IntKind.i64 a, Value.int IntKind.i64 b])), Value.bool true]),
    fun _ => false = false,
    fun _ => true = true,
    fun _ => True,
    fun _ => [SV.v (Value.int IntKind.i64 a), SV.v (Value.int IntKind.i64 b)] = [SV.v (Value.int IntKind.i64 a), SV.v (Value.int IntKind.i64 b)],
    fun _ => [SV.v (Value.int IntKind.i64 (↑k : Int))] = [SV.v (Value.int IntKind.i64 (↑k : Int))],
    fun _ => unv [SV.v (Value.int IntKind.i64 a), SV.v (Value.int IntKind.i64 b)] = intsC (unIs (unv [SV.v (Value.int IntKind.i64 a), SV.v (Value.int IntKind.i64 b)])) ∧ (2 : Nat) = (2 : Nat) ∧ (2 : Nat) ≤ (4611686018427387903 : Nat),
    fun _ => anyO (↑k : Int) (unv [SV.v (Value.int IntKind.i64 a), SV.v (Value.int IntKind.i64 b)]) = false,
    fun _ => (k + (1 : Nat)) * (16 : Nat) ≤ (140737488355328 : Nat) ∧ k + (1 : Nat) ≤ (140737488355328 : Nat)] (It.rnd [(0 : Nat), (0 : Nat), (1 : Nat), (0 : Nat), (1 : Nat), (1 : Nat)] (M + (1 : Nat)) :: kt) (St.mk [((13 : Nat), SV.v (Value.int IntKind.i64 (IntKind.wrap IntKind.i64 ((↑k : Int) + (1 : Int))))), ((12 : Nat), SV.v (Value.int IntKind.i64 (↑n : Int))), ((11 : Nat), SV.v (Value.slice (some ad) n cap)), ((4 : Nat), SV.o (5 : Nat)), ((2 : Nat), SV.v (Value.slice none (0 : Nat) (0 : Nat))), ((3 : Nat), SV.v (Value.bool false))] [HO.gone, HO.cells [SV.v (Value.int IntKind.i64 (↑k : Int))] (3 : Nat), HO.cells [SV.v (Value.int IntKind.i64 op), SV.v (Value.int IntKind.i64 a), SV.v (Value.int IntKind.i64 b), SV.v (Value.int IntKind.u64 z0), SV.v (Value.int IntKind.u64 z1), SV.v (Value.int IntKind.u64 z2), SV.v (Value.int IntKind.u64 z3)] (43 : Nat), HO.row (3 : Nat) (1 : Nat) (2 : Nat) [SV.v (Value.int IntKind.i64 a), SV.v (Value.int IntKind.i64 b)], HO.row (82 : Nat) (1 : Nat) (1 : Nat) [SV.v (Value.iface (132 : Nat) (Value.agg (Array.mk [Value.int IntKind.i64 a, Value.int IntKind.i64 b])))], HO.row (82 : Nat) (1 : Nat) (k + (1 : Nat)) (mapv cs ++ [SV.v (Value.iface (132 : Nat) (Value.agg (Array.mk [Value.int IntKind.i64 a, Value.int IntKind.i64 b])))])])]
  := by kernel_rfl

theorem se1m (ad : Addr) (n cap k M : Nat) (op a b z0 z1 z2 z3 : Int) (cs : List Value) : (((xgo Try.prog X (bodyOf Try.f50) 43 K3 [] 60 [.t, .ld (.agg [.v (.int .i64 op), .v (.int .i64 a), .v (.int .i64 b), .v (.int .u64 z0), .v (.int .u64 z1), .v (.int .u64 z2), .v (.int .u64 z3)]), .ld (.v (.tuple #[.iface 132 (.agg #[.int .i64 a, .int .i64 b]), .bool true])), .f, .t, .t] ((.nil)) [.at [0,0,1,0,1,1], .rnd [0,0,1,0,1,1] (M + 1), .blk 0, .at [1,1,1]] ⟨[(13, .v (.int .i64 (k : Int))), (12, .v (.int .i64 (n : Int))), (11, .v (.slice (some ad) n cap)), (4, .o 0), (2, .v (.slice none 0 0)), (3, .v (.bool false))], [.row 82 1 k (mapv cs)]⟩ [] []).bind (ends Try.prog Try.f50.results.toList)).bind plainE) =
  some [EndP.mk [] [fun _ => decide ((↑k : Int) < (↑n : Int)) = true,
    fun _ => (0 : Int) ≤ (↑k : Int) ∧ (↑k : Int) < (↑n : Int),
    fun _ => true = true, fun M => MCells (fun a => M a) (some (if Int.toNat (↑k : Int) * (7 : Nat) = (0 : Nat) then ad else Addr.mk ad.1 (ad.2 + Int.toNat (↑k : Int) * (7 : Nat)) none)) [Value.int IntKind.i64 op, Value.int IntKind.i64 a, Value.int IntKind.i64 b, Value.int IntKind.u64 z0, Value.int IntKind.u64 z1, Value.int IntKind.u64 z2, Value.int IntKind.u64 z3],
    fun _ => (0 : Nat) + (1 : Nat) ≤ (1 : Nat),
    fun _ => (0 : Nat) + (7 : Nat) ≤ (7 : Nat),
    fun _ => True,
    fun _ => rdV op a b (Value.int IntKind.u64 z0) (Value.int IntKind.u64 z1) (Value.int IntKind.u64 z2) (Value.int IntKind.u64 z3) = Value.tuple (Array.mk [Value.iface (132 : Nat) (Value.agg (Array.mk [Value.int IntKind.i64 a, Value.int IntKind.i64 b])), Value.bool true]),
    fun _ => false = false,
    fun _ => true = true,
    fun _ => True,
    fun _ => [SV.v (Value.int IntKind.i64 a), SV.v (Value.int IntKind.i64 b)] = [SV.v (Value.int IntKind.i64 a), SV.v (Value.int IntKind.i64 b)],
    fun _ => [SV.v (Value.int IntKind.i64 (↑k : Int))] = [SV.v (Value.int IntKind.i64 (↑k : Int))],
    fun _ => unv [SV.v (Value.int IntKind.i64 a), SV.v (Value.int IntKind.i64 b)] = intsC (unIs (unv [SV.v (Value.int IntKind.i64 a), SV.v (Value.int IntKind.i64 b)])) ∧ (2 : Nat) = (2 : Nat) ∧ (2 : Nat) ≤ (4611686018427387903 : Nat),
    fun _ => anyO (↑k : Int) (unv [SV.v (Value.int IntKind.i64 a), SV.v (Value.int IntKind.i64 b)]) = true] (Res.v (Value.tuple (Array.mk [Value.slice none (0 : Nat) (0 : Nat), Value.bool false])))]
  := by kernel_rfl

theorem se0m (ad : Addr) (n cap M : Nat) (op a b z0 z1 z2 z3 : Int) : (((xgo Try.prog X (bodyOf Try.f50) 43 K3 [] 60 [.t, .ld (.agg [.v (.int .i64 op), .v (.int .i64 a), .v (.int .i64 b), .v (.int .u64 z0), .v (.int .u64 z1), .v (.int .u64 z2), .v (.int .u64 z3)]), .ld (.v (.tuple #[.iface 132 (.agg #[.int .i64 a, .int .i64 b]), .bool true])), .f, .t, .t] ((.nil)) [.at [0,0,1,0,1,1], .rnd [0,0,1,0,1,1] (M + 1), .blk 0, .at [1,1,1]] ⟨[(13, .v (.int .i64 0)), (12, .v (.int .i64 (n : Int))), (11, .v (.slice (some ad) n cap)), (4, .v (.slice none 0 0)), (2, .v (.slice none 0 0)), (3, .v (.bool false))], []⟩ [] []).bind (ends Try.prog Try.f50.results.toList)).bind plainE) =
  some [EndP.mk [] [fun _ => decide ((0 : Int) < (↑n : Int)) = true,
    fun _ => (0 : Int) ≤ (0 : Int) ∧ (0 : Int) < (↑n : Int),
    fun _ => true = true, fun M => MCells (fun a => M a) (some (if (0 : Nat) = (0 : Nat) then ad else Addr.mk ad.1 (ad.2 + (0 : Nat)) none)) [Value.int IntKind.i64 op, Value.int IntKind.i64 a, Value.int IntKind.i64 b, Value.int IntKind.u64 z0, Value.int IntKind.u64 z1, Value.int IntKind.u64 z2, Value.int IntKind.u64 z3],
    fun _ => (1 : Nat) ≤ (1 : Nat),
    fun _ => (0 : Nat) + (7 : Nat) ≤ (7 : Nat),
    fun _ => True,
    fun _ => rdV op a b (Value.int IntKind.u64 z0) (Value.int IntKind.u64 z1) (Value.int IntKind.u64 z2) (Value.int IntKind.u64 z3) = Value.tuple (Array.mk [Value.iface (132 : Nat) (Value.agg (Array.mk [Value.int IntKind.i64 a, Value.int IntKind.i64 b])), Value.bool true]),
    fun _ => false = false,
    fun _ => true = true,
    fun _ => True,
    fun _ => [SV.v (Value.int IntKind.i64 a), SV.v (Value.int IntKind.i64 b)] = [SV.v (Value.int IntKind.i64 a), SV.v (Value.int IntKind.i64 b)],
    fun _ => [SV.v (Value.int IntKind.i64 (0 : Int))] = [SV.v (Value.int IntKind.i64 (0 : Int))],
    fun _ => unv [SV.v (Value.int IntKind.i64 a), SV.v (Value.int IntKind.i64 b)] = intsC (unIs (unv [SV.v (Value.int IntKind.i64 a), SV.v (Value.int IntKind.i64 b)])) ∧ (2 : Nat) = (2 : Nat) ∧ (2 : Nat) ≤ (4611686018427387903 : Nat),
    fun _ => anyO (0 : Int) (unv [SV.v (Value.int IntKind.i64 a), SV.v (Value.int IntKind.i64 b)]) = true] (Res.v (Value.tuple (Array.mk [Value.slice none (0 : Nat) (0 : Nat), Value.bool false])))]
  := by kernel_rfl

theorem st1s (ad : Addr) (n cap k M : Nat) (op a b z0 z1 z2 z3 : Int) (cs : List Value) (kt : List It) : ((xgo Try.prog X (bodyOf Try.f50) 43 K3 [] 60 [.t, .ld (.agg [.v (.int .i64 op), .v (.int .i64 a), .v (.int .i64 b), .v (.int .u64 z0), .v (.int .u64 z1), .v (.int .u64 z2), .v (.int .u64 z3)]), .ld (.v (.tuple #[.iface 134 (.agg #[.int .i64 a, .int .u64 z0, .int .u64 z1, .int .u64 z2, .int .u64 z3]), .bool true])), .f, .t, .f] ((.nil)) (.at [0,0,1,0,1,1] :: .rnd [0,0,1,0,1,1] (M + 1) :: kt) ⟨[(13, .v (.int .i64 (k : Int))), (12, .v (.int .i64 (n : Int))), (11, .v (.slice (some ad) n cap)), (4, .o 0), (2, .v (.slice none 0 0)), (3, .v (.bool false))], [.row 82 1 k (mapv cs)]⟩ [] []).map (trims [13, 12, 11, 4, 2, 3])) =
  some [Leaf2.mk [] [fun _ => decide ((↑k : Int) < (↑n : Int)) = true,
    fun _ => (0 : Int) ≤ (↑k : Int) ∧ (↑k : Int) < (↑n : Int),
    fun _ => true = true, fun M => MCells (fun a => M a) (some (if Int.toNat (↑k : Int) * (7 : Nat) = (0 : Nat) then ad else Addr.mk ad.1 (ad.2 + Int.toNat (↑k : Int) * (7 : Nat)) none)) [Value.int IntKind.i64 op, Value.int IntKind.i64 a, Value.int IntKind.i64 b, Value.int IntKind.u64 z0, Value.int IntKind.u64 z1, Value.int IntKind.u64 z2, Value.int IntKind.u64 z3],
    fun _ => (0 : Nat) + (1 : Nat) ≤ (1 : Nat),
    fun _ => (0 : Nat) + (7 : Nat) ≤ (7 : Nat),
    fun _ => True,
    fun _ => rdV op a b (Value.int IntKind.u64 z0) (Value.int IntKind.u64 z1) (Value.int IntKind.u64 z2) (Value.int IntKind.u64 z3) = Value.tuple (Array.mk [Value.iface (134 : Nat) (Value.agg (Array.mk [Value.int IntKind.i64 a, Value.int IntKind.u64 z0, Value.int IntKind.u64 z1, Value.int IntKind.u64 z2, Value.int IntKind.u64 z3])), Value.bool true]),
    fun _ => false = false,
    fun _ => true = true,
    fun _ => True,
    fun _ => [SV.v (Value.int IntKind.i64 a)] = [SV.v (Value.int IntKind.i64 a)],
    fun _ => [SV.v (Value.int IntKind.i64 (↑k : Int))] = [SV.v (Value.int IntKind.i64 (↑k : Int))],
    fun _ => unv [SV.v (Value.int IntKind.i64 a)] = intsC (unIs (unv [SV.v (Value.int IntKind.i64 a)])) ∧ (1 : Nat) = (1 : Nat) ∧ (1 : Nat) ≤ (4611686018427387903 : Nat),
    fun _ => anyO (↑k : Int) (unv [SV.v (Value.int IntKind.i64 a)]) = false,
    fun _ => (k + (1 : Nat)) * (16 : Nat) ≤ (140737488355328 : Nat) ∧ k + (1 : Nat) ≤ (140737488355328 : Nat)] (It.rnd [(0 : Nat), (0 : Nat), (1 : Nat), (0 : Nat), (1 : Nat), (1 : Nat)] (M + (1 : Nat)) :: kt) (St.mk [((13 : Nat), SV.v (Value.int IntKind.i64 (IntKind.wrap IntKind.i64 ((↑k : Int) + (1 : Int))))), ((12 : Nat), SV.v (Value.int IntKind.i64 (↑n : Int))), ((11 : Nat), SV.v (Value.slice (some ad) n cap)), ((4 : Nat), SV.o (5 : Nat)), ((2 : Nat), SV.v (Value.slice none (0 : Nat) (0 : Nat))), ((3 : Nat), SV.v (Value.bool false))] [HO.gone, HO.cells [SV.v (Value.int IntKind.i64 (↑k : Int))] (3 : Nat), HO.cells [SV.v (Value.int IntKind.i64 op), SV.v (Value.int IntKind.i64 a), SV.v (Value.int IntKind.i64 b), SV.v (Value.int IntKind.u64 z0), SV.v (Value.int IntKind.u64 z1), SV.v (Value.int IntKind.u64 z2), SV.v (Value.int IntKind.u64 z3)] (43 : Nat), HO.row (3 : Nat) (1 : Nat) (1 : Nat) [SV.v (Value.int IntKind.i64 a)], HO.row (82 : Nat) (1 : Nat) (1 : Nat) [SV.v (Value.iface (134 : Nat) (Value.agg (Array.mk [Value.int IntKind.i64 a, Value.int IntKind.u64 z0, Value.int IntKind.u64 z1, Value.int IntKind.u64 z2, Value.int IntKind.u64 z3])))], HO.row (82 : Nat) (1 : Nat) (k + (1 : Nat)) (mapv cs ++ [SV.v (Value.iface (134 : Nat) (Value.agg (Array.mk [Value.int IntKind.i64 a, Value.int IntKind.u64 z0, Value.int IntKind.u64 z1, Value.int IntKind.u64 z2, Value.int IntKind.u64 z3])))])])]
  := by kernel_rfl

theorem se1s (ad : Addr) (n cap k M : Nat) (op a b z0 z1 z2 z3 : Int) (cs : List Value) : (((xgo Try.prog X (bodyOf Try.f50) 43 K3 [] 60 [.t, .ld (.agg [.v (.int .i64 op), .v (.int .i64 a), .v (.int .i64 b), .v (.int .u64 z0), .v (.int .u64 z1), .v (.int .u64 z2), .v (.int .u64 z3)]), .ld (.v (.tuple #[.iface 134 (.agg #[.int .i64 a, .int .u64 z0, .int .u64 z1, .int .u64 z2, .int .u64 z3]), .bool true])), .f, .t, .t] ((.nil)) [.at [0,0,1,0,1,1], .rnd [0,0,1,0,1,1] (M + 1), .blk 0, .at [1,1,1]] ⟨[(13, .v (.int .i64 (k : Int))), (12, .v (.int .i64 (n : Int))), (11, .v (.slice (some ad) n cap)), (4, .o 0), (2, .v (.slice none 0 0)), (3, .v (.bool false))], [.row 82 1 k (mapv cs)]⟩ [] []).bind (ends Try.prog Try.f50.results.toList)).bind plainE) =
  some [EndP.mk [] [fun _ => decide ((↑k : Int) < (↑n : Int)) = true,
    fun _ => (0 : Int) ≤ (↑k : Int) ∧ (↑k : Int) < (↑n : Int),
    fun _ => true = true, fun M => MCells (fun a => M a) (some (if Int.toNat (↑k : Int) * (7 : Nat) = (0 : Nat) then ad else Addr.mk ad.1 (ad.2 + Int.toNat (↑k : Int) * (7 : Nat)) none)) [Value.int IntKind.i64 op, Value.int IntKind.i64 a, Value.int IntKind.i64 b, Value.int IntKind.u64 z0, Value.int IntKind.u64 z1, Value.int IntKind.u64 z2, Value.int IntKind.u64 z3],
    fun _ => (0 : Nat) + (1 : Nat) ≤ (1 : Nat),
    fun _ => (0 : Nat) + (7 : Nat) ≤ (7 : Nat),
    fun _ => True,
    fun _ => rdV op a b (Value.int IntKind.u64 z0) (Value.int IntKind.u64 z1) (Value.int IntKind.u64 z2) (Value.int IntKind.u64 z3) = Value.tuple (Array.mk [Value.iface (134 : Nat) (Value.agg (Array.mk [Value.int IntKind.i64 a, Value.int IntKind.u64 z0, Value.int IntKind.u64 z1, Value.int IntKind.u64 z2, Value.int IntKind.u64 z3])), Value.bool true]),
    fun _ => false = false,
    fun _ => true = true,
    fun _ => True,
    fun _ => [SV.v (Value.int IntKind.i64 a)] = [SV.v (Value.int IntKind.i64 a)],
    fun _ => [SV.v (Value.int IntKind.i64 (↑k : Int))] = [SV.v (Value.int IntKind.i64 (↑k : Int))],
    fun _ => unv [SV.v (Value.int IntKind.i64 a)] = intsC (unIs (unv [SV.v (Value.int IntKind.i64 a)])) ∧ (1 : Nat) = (1 : Nat) ∧ (1 : Nat) ≤ (4611686018427387903 : Nat),
    fun _ => anyO (↑k : Int) (unv [SV.v (Value.int IntKind.i64 a)]) = true] (Res.v (Value.tuple (Array.mk [Value.slice none (0 : Nat) (0 : Nat), Value.bool false])))]
  := by kernel_rfl

theorem se0s (ad : Addr) (n cap M : Nat) (op a b z0 z1 z2 z3 : Int) : (((xgo Try.prog X (bodyOf Try.f50) 43 K3 [] 60 [.t, .ld (.agg [.v (.int .i64 op), .v (.int .i64 a), .v (.int .i64 b), .v (.int .u64 z0), .v (.int .u64 z1), .v (.int .u64 z2), .v (.int .u64 z3)]), .ld (.v (.tuple #[.iface 134 (.agg #[.int .i64 a, .int .u64 z0, .int .u64 z1, .int .u64 z2, .int .u64 z3]), .bool true])), .f, .t, .t] ((.nil)) [.at [0,0,1,0,1,1], .rnd [0,0,1,0,1,1] (M + 1), .blk 0, .at [1,1,1]] ⟨[(13, .v (.int .i64 0)), (12, .v (.int .i64 (n : Int))), (11, .v (.slice (some ad) n cap)), (4, .v (.slice none 0 0)), (2, .v (.slice none 0 0)), (3, .v (.bool false))], []⟩ [] []).bind (ends Try.prog Try.f50.results.toList)).bind plainE) =
  some [EndP.mk [] [fun _ => decide ((0 : Int) < (↑n : Int)) = true,
    fun _ => (0 : Int) ≤ (0 : Int) ∧ (0 : Int) < (↑n : Int),
    fun _ => true = true, fun M => MCells (fun a => M a) (some (if (0 : Nat) = (0 : Nat) then ad else Addr.mk ad.1 (ad.2 + (0 : Nat)) none)) [Value.int IntKind.i64 op, Value.int IntKind.i64 a, Value.int IntKind.i64 b, Value.int IntKind.u64 z0, Value.int IntKind.u64 z1, Value.int IntKind.u64 z2, Value.int IntKind.u64 z3],
    fun _ => (1 : Nat) ≤ (1 : Nat),
    fun _ => (0 : Nat) + (7 : Nat) ≤ (7 : Nat),
    fun _ => True,
    fun _ => rdV op a b (Value.int IntKind.u64 z0) (Value.int IntKind.u64 z1) (Value.int IntKind.u64 z2) (Value.int IntKind.u64 z3) = Value.tuple (Array.mk [Value.iface (134 : Nat) (Value.agg (Array.mk [Value.int IntKind.i64 a, Value.int IntKind.u64 z0, Value.int IntKind.u64 z1, Value.int IntKind.u64 z2, Value.int IntKind.u64 z3])), Value.bool true]),
    fun _ => false = false,
    fun _ => true = true,
    fun _ => True,
    fun _ => [SV.v (Value.int IntKind.i64 a)] = [SV.v (Value.int IntKind.i64 a)],
    fun _ => [SV.v (Value.int IntKind.i64 (0 : Int))] = [SV.v (Value.int IntKind.i64 (0 : Int))],
    fun _ => unv [SV.v (Value.int IntKind.i64 a)] = intsC (unIs (unv [SV.v (Value.int IntKind.i64 a)])) ∧ (1 : Nat) = (1 : Nat) ∧ (1 : Nat) ≤ (4611686018427387903 : Nat),
    fun _ => anyO (0 : Int) (unv [SV.v (Value.int IntKind.i64 a)]) = true] (Res.v (Value.tuple (Array.mk [Value.slice none (0 : Nat) (0 : Nat), Value.bool false])))]
  := by kernel_rfl

theorem se1x (ad : Addr) (n cap k M : Nat) (op a b z0 z1 z2 z3 : Int) (cs : List Value) : (((xgo Try.prog X (bodyOf Try.f50) 43 K3 [] 60 [.t, .ld (.agg [.v (.int .i64 op), .v (.int .i64 a), .v (.int .i64 b), .v (.int .u64 z0), .v (.int .u64 z1), .v (.int .u64 z2), .v (.int .u64 z3)]), .ld (.v (.tuple #[.nilIface, .bool false])), .t] ((.nil)) [.at [0,0,1,0,1,1], .rnd [0,0,1,0,1,1] (M + 1), .blk 0, .at [1,1,1]] ⟨[(13, .v (.int .i64 (k : Int))), (12, .v (.int .i64 (n : Int))), (11, .v (.slice (some ad) n cap)), (4, .o 0), (2, .v (.slice none 0 0)), (3, .v (.bool false))], [.row 82 1 k (mapv cs)]⟩ [] []).bind (ends Try.prog Try.f50.results.toList)).bind plainE) =
  some [EndP.mk [] [fun _ => decide ((↑k : Int) < (↑n : Int)) = true,
    fun _ => (0 : Int) ≤ (↑k : Int) ∧ (↑k : Int) < (↑n : Int),
    fun _ => true = true, fun M => MCells (fun a => M a) (some (if Int.toNat (↑k : Int) * (7 : Nat) = (0 : Nat) then ad else Addr.mk ad.1 (ad.2 + Int.toNat (↑k : Int) * (7 : Nat)) none)) [Value.int IntKind.i64 op, Value.int IntKind.i64 a, Value.int IntKind.i64 b, Value.int IntKind.u64 z0, Value.int IntKind.u64 z1, Value.int IntKind.u64 z2, Value.int IntKind.u64 z3],
    fun _ => (0 : Nat) + (1 : Nat) ≤ (1 : Nat),
    fun _ => (0 : Nat) + (7 : Nat) ≤ (7 : Nat),
    fun _ => True,
    fun _ => rdV op a b (Value.int IntKind.u64 z0) (Value.int IntKind.u64 z1) (Value.int IntKind.u64 z2) (Value.int IntKind.u64 z3) = Value.tuple (Array.mk [Value.nilIface, Value.bool false]),
    fun _ => true = true] (Res.v (Value.tuple (Array.mk [Value.slice none (0 : Nat) (0 : Nat), Value.bool false])))]
  := by kernel_rfl

theorem se0x (ad : Addr) (n cap M : Nat) (op a b z0 z1 z2 z3 : Int) : (((xgo Try.prog X (bodyOf Try.f50) 43 K3 [] 60 [.t, .ld (.agg [.v (.int .i64 op), .v (.int .i64 a), .v (.int .i64 b), .v (.int .u64 z0), .v (.int .u64 z1), .v (.int .u64 z2), .v (.int .u64 z3)]), .ld (.v (.tuple #[.nilIface, .bool false])), .t] ((.nil)) [.at [0,0,1,0,1,1], .rnd [0,0,1,0,1,1] (M + 1), .blk 0, .at [1,1,1]] ⟨[(13, .v (.int .i64 0)), (12, .v (.int .i64 (n : Int))), (11, .v (.slice (some ad) n cap)), (4, .v (.slice none 0 0)), (2, .v (.slice none 0 0)), (3, .v (.bool false))], []⟩ [] []).bind (ends Try.prog Try.f50.results.toList)).bind plainE) =
  some [EndP.mk [] [fun _ => decide ((0 : Int) < (↑n : Int)) = true,
    fun _ => (0 : Int) ≤ (0 : Int) ∧ (0 : Int) < (↑n : Int),
    fun _ => true = true, fun M => MCells (fun a => M a) (some (if (0 : Nat) = (0 : Nat) then ad else Addr.mk ad.1 (ad.2 + (0 : Nat)) none)) [Value.int IntKind.i64 op, Value.int IntKind.i64 a, Value.int IntKind.i64 b, Value.int IntKind.u64 z0, Value.int IntKind.u64 z1, Value.int IntKind.u64 z2, Value.int IntKind.u64 z3],
    fun _ => (1 : Nat) ≤ (1 : Nat),
    fun _ => (0 : Nat) + (7 : Nat) ≤ (7 : Nat),
    fun _ => True,
    fun _ => rdV op a b (Value.int IntKind.u64 z0) (Value.int IntKind.u64 z1) (Value.int IntKind.u64 z2) (Value.int IntKind.u64 z3) = Value.tuple (Array.mk [Value.nilIface, Value.bool false]),
    fun _ => true = true] (Res.v (Value.tuple (Array.mk [Value.slice none (0 : Nat) (0 : Nat), Value.bool false])))]
  := by kernel_rfl

theorem sn1 (oa : Option Addr) (n cap k M : Nat) (cs : List Value) : (((xgo Try.prog X (bodyOf Try.f50) 43 K3 [] 60 [.f] ((.nil)) [.at [0,0,1,0,1,1], .rnd [0,0,1,0,1,1] (M + 1), .blk 0, .at [1,1,1]] ⟨[(13, .v (.int .i64 (k : Int))), (12, .v (.int .i64 (n : Int))), (11, .v (.slice oa n cap)), (4, .o 0), (2, .v (.slice none 0 0)), (3, .v (.bool false))], [.row 82 1 k (mapv cs)]⟩ [] []).bind (ends Try.prog Try.f50.results.toList)).bind plainE) =
  some [EndP.mk [] [fun _ => decide ((↑k : Int) < (↑n : Int)) = false,
    fun _ => mapv cs = mapv (unv (mapv cs))] (Res.rt (82 : Nat) (1 : Nat) k (unv (mapv cs)) [Value.bool true])]
  := by kernel_rfl

theorem sn0 (oa : Option Addr) (n cap M : Nat) : (((xgo Try.prog X (bodyOf Try.f50) 43 K3 [] 60 [.f] ((.nil)) [.at [0,0,1,0,1,1], .rnd [0,0,1,0,1,1] (M + 1), .blk 0, .at [1,1,1]] ⟨[(13, .v (.int .i64 0)), (12, .v (.int .i64 (n : Int))), (11, .v (.slice oa n cap)), (4, .v (.slice none 0 0)), (2, .v (.slice none 0 0)), (3, .v (.bool false))], []⟩ [] []).bind (ends Try.prog Try.f50.results.toList)).bind plainE) =
  some [EndP.mk [] [fun _ => decide ((0 : Int) < (↑n : Int)) = false] (Res.v (Value.tuple (Array.mk [Value.slice none (0 : Nat) (0 : Nat), Value.bool true])))]
  := by kernel_rfl

theorem sS (oa : Option Addr) (n cap : Nat) : ((xgo Try.prog X (bodyOf Try.f50) 43 K3 [] 60 [] ((.nil)) [.at []] ⟨argsTm 0 [.slice oa n cap], []⟩ [] []).map (trims [13, 12, 11, 4, 2, 3])) =
  some [Leaf2.mk [] [] [It.at [(0 : Nat), (1 : Nat), (0 : Nat), (1 : Nat), (1 : Nat)], It.blk (0 : Nat), It.at [(1 : Nat), (1 : Nat), (1 : Nat)]] (St.mk [((13 : Nat), SV.v (Value.int IntKind.i64 (0 : Int))), ((12 : Nat), SV.v (Value.int IntKind.i64 (↑n : Int))), ((11 : Nat), SV.v (Value.slice oa n cap)), ((4 : Nat), SV.v (Value.slice none (0 : Nat) (0 : Nat))), ((2 : Nat), SV.v (Value.slice none (0 : Nat) (0 : Nat))), ((3 : Nat), SV.v (Value.bool false))] [])]
  := by kernel_rfl

noncomputable def stS1 (oa : Option Addr) (n cap k : Nat) (cs : List Value) : St := ⟨[(13, .v (.int .i64 (k : Int))), (12, .v (.int .i64 (n : Int))), (11, .v (.slice oa n cap)), (4, .o 0), (2, .v (.slice none 0 0)), (3, .v (.bool false))], [.row 82 1 k (mapv cs)]⟩
noncomputable def stS0 (oa : Option Addr) (n cap : Nat) : St := ⟨[(13, .v (.int .i64 0)), (12, .v (.int .i64 (n : Int))), (11, .v (.slice oa n cap)), (4, .v (.slice none 0 0)), (2, .v (.slice none 0 0)), (3, .v (.bool false))], []⟩
/-- What steps answers. -/
noncomputable def stepsR (all : List Nd) (ok : Bool) : Res := if ok then .rt 82 1 all.length (all.map stV) [.bool true] else .rt 82 1 0 [] [.bool false]
theorem steps_loop1 {w : World} (oa : Option Addr) (n cap : Nat) (all : List Nd) (hn : all.length = n) (hb : n ≤ 4398046511104) (ha : nodesC all = [] ∨ MCells (wmem w) oa (nodesC all)) (R : Res → Prop) (hnil : ∀ (T sz : Nat) (b : Bool), R (.rt T sz 0 [] [.bool b]) → R (.v (.tuple (Array.mk [.slice none 0 0, .bool b])))) :
    ∀ (l pre : List Nd), all = pre ++ l → R (stepsR all (ordN pre.length l)) →
    Ok Try.prog (bodyOf Try.f50) 43 (F0 w) w (bodyPost Try.prog Try.f50 fun E w' => ∃ v r, E = .returned v ∧ R r ∧ r.ok w w' v ∧ Below w.heap.size w w') (.rnd [0,0,1,0,1,1] (l.length + 2) :: [.blk 0, .at [1,1,1]]) (stS1 oa n cap pre.length (pre.map stV))
  | [], pre, he, hR => by
    have hl : pre.length = n := by rw [← hn, he]; simp
    have he' : all = pre := by rw [he]; simp
    refine Ok.rnd (ok_plain hm (F0.mono w) (fun _ h => h) 60 _ _ _ _ (sn1 oa n cap pre.length 0 (pre.map stV)) ⟨fun _ => ⟨?_, ?_⟩, trivial⟩)
    · simp only [hold_cons, hold_nil, and_true, unv_mapv']
      exact ⟨fun _ _ => decide_eq_false (by omega), fun _ _ => trivial⟩
    · rw [unv_mapv', ← he', hn]
      rw [ordN, stepsR, if_pos rfl, hn] at hR
      exact hR
  | x :: l, pre, he, hR => by
    have hl : pre.length + (l.length + 1) = n := by rw [← hn, he]; simp
    have hne : MCells (wmem w) oa (nodesC all) := by
      rcases ha with h | h
      · rw [he, nodesC_append, nodesC_cons] at h; simp [ndC] at h
      · exact h
    obtain ⟨ad, rfl, hcells⟩ := hne
    have hx : MCells (wmem w) (some (ad.add (pre.length * 7))) (ndC x) := nodes_at pre l x (by rw [← he]; exact ⟨ad, rfl, hcells⟩)
    have s1 : decide (((pre.length : Nat) : Int) < (n : Int)) = true := decide_eq_true (by omega)
    have s2 : (0 : Int) ≤ ((pre.length : Nat) : Int) ∧ ((pre.length : Nat) : Int) < (n : Int) := ⟨by omega, by omega⟩
    have hok := okN_eq pre.length x
    by_cases hkc : x.op = 1
    · have hrd := rd_c x.a x.b (.int .u64 (limb x.v 0 : Nat)) (.int .u64 (limb x.v 1 : Nat)) (.int .u64 (limb x.v 2 : Nat)) (.int .u64 (limb x.v 3 : Nat)) hkc
      have hu : usesN x = [] := by unfold usesN; rw [if_neg (by omega), if_neg (by omega)]
      have hsv : stV x = .iface 102 (.agg #[.int .u64 (limb x.v 0 : Nat), .int .u64 (limb x.v 1 : Nat), .int .u64 (limb x.v 2 : Nat), .int .u64 (limb x.v 3 : Nat)]) := by unfold stV; rw [if_pos hkc]
      rw [hu] at hok
      rw [List.any_nil, Bool.not_false, Bool.and_true, decide_eq_true (by omega)] at hok
      rw [ordN, hok, Bool.true_and] at hR
      refine Ok.rnd (xgo_trim hm (F0.mono w) finB 60 _ _ _ _ _ _ (st1c ad n cap pre.length (l.length + 1) x.op x.a x.b (limb x.v 0 : Nat) (limb x.v 1 : Nat) (limb x.v 2 : Nat) (limb x.v 3 : Nat) (pre.map stV) _) (paidCons (fun _ => ⟨?_, ?_⟩) paidNil))
      · simp only [hold_cons, hold_nil, and_true]
        exact ⟨fun _ _ => s1, fun _ _ => s2, fun _ _ => trivial, hold_cells hx, fun _ _ => by omega, fun _ _ => by omega, fun _ _ => trivial, fun _ _ => hrd, fun _ _ => trivial, fun _ _ => trivial, fun _ _ => trivial, fun _ _ => ⟨by omega, by omega⟩⟩
      · have hlen : (pre ++ [x]).length = pre.length + 1 := by simp
        have fin := steps_loop1 (some ad) n cap all hn hb ha R hnil l (pre ++ [x]) (by rw [he]; simp) (by rw [hlen]; exact hR)
        rw [List.map_append, List.map_cons, List.map_nil, hsv, hlen] at fin
        simp only [wrap_inc pre.length (by omega)]
        refine Ok.weaken (st' := stS1 (some ad) n cap (pre.length + 1) (pre.map stV ++ [.iface 102 (.agg #[.int .u64 (limb x.v 0 : Nat), .int .u64 (limb x.v 1 : Nat), .int .u64 (limb x.v 2 : Nat), .int .u64 (limb x.v 3 : Nat)])])) (F0.mono w) [4] ⟨rfl, rfl, rfl, rfl, rfl, rfl, trivial⟩ ⟨?_, trivial⟩ rfl ⟨?_, ?_⟩ fin
        · have e : mapv (pre.map stV) ++ [SV.v (.iface 102 (.agg #[.int .u64 (limb x.v 0 : Nat), .int .u64 (limb x.v 1 : Nat), .int .u64 (limb x.v 2 : Nat), .int .u64 (limb x.v 3 : Nat)]))] = mapv (pre.map stV ++ [.iface 102 (.agg #[.int .u64 (limb x.v 0 : Nat), .int .u64 (limb x.v 1 : Nat), .int .u64 (limb x.v 2 : Nat), .int .u64 (limb x.v 3 : Nat)])]) := by rw [mapv_append]; rfl
          rw [show (mapv (pre.map stV) ++ [SV.v (.iface 102 (.agg #[.int .u64 (limb x.v 0 : Nat), .int .u64 (limb x.v 1 : Nat), .int .u64 (limb x.v 2 : Nat), .int .u64 (limb x.v 3 : Nat)]))] : List SV) = mapv (pre.map stV ++ [.iface 102 (.agg #[.int .u64 (limb x.v 0 : Nat), .int .u64 (limb x.v 1 : Nat), .int .u64 (limb x.v 2 : Nat), .int .u64 (limb x.v 3 : Nat)])]) from e]
          exact ren_row _ _ _ _ _
        · simp [stS1, wsAllT, ws]
        · simp only [stS1, wsAllH, HO.ws, and_true]; exact wsL_mapv _ _
    by_cases hkq : 2 ≤ x.op ∧ x.op ≤ 4
    · have hrd := rd_q x.a x.b (.int .u64 (limb x.v 0 : Nat)) (.int .u64 (limb x.v 1 : Nat)) (.int .u64 (limb x.v 2 : Nat)) (.int .u64 (limb x.v 3 : Nat)) hkq
      have hu : usesN x = [] := by unfold usesN; rw [if_neg (by omega), if_neg (by omega)]
      have hsv : stV x = .iface 103 (.agg #[.int .i64 x.op, .int .i64 x.a, .int .i64 x.b]) := by unfold stV; rw [if_neg (by omega), if_pos hkq]
      rw [hu] at hok
      rw [List.any_nil, Bool.not_false, Bool.and_true, decide_eq_true (by omega)] at hok
      rw [ordN, hok, Bool.true_and] at hR
      refine Ok.rnd (xgo_trim hm (F0.mono w) finB 60 _ _ _ _ _ _ (st1q ad n cap pre.length (l.length + 1) x.op x.a x.b (limb x.v 0 : Nat) (limb x.v 1 : Nat) (limb x.v 2 : Nat) (limb x.v 3 : Nat) (pre.map stV) _) (paidCons (fun _ => ⟨?_, ?_⟩) paidNil))
      · simp only [hold_cons, hold_nil, and_true]
        exact ⟨fun _ _ => s1, fun _ _ => s2, fun _ _ => trivial, hold_cells hx, fun _ _ => by omega, fun _ _ => by omega, fun _ _ => trivial, fun _ _ => hrd, fun _ _ => trivial, fun _ _ => trivial, fun _ _ => trivial, fun _ _ => ⟨by omega, by omega⟩⟩
      · have hlen : (pre ++ [x]).length = pre.length + 1 := by simp
        have fin := steps_loop1 (some ad) n cap all hn hb ha R hnil l (pre ++ [x]) (by rw [he]; simp) (by rw [hlen]; exact hR)
        rw [List.map_append, List.map_cons, List.map_nil, hsv, hlen] at fin
        simp only [wrap_inc pre.length (by omega)]
        refine Ok.weaken (st' := stS1 (some ad) n cap (pre.length + 1) (pre.map stV ++ [.iface 103 (.agg #[.int .i64 x.op, .int .i64 x.a, .int .i64 x.b])])) (F0.mono w) [4] ⟨rfl, rfl, rfl, rfl, rfl, rfl, trivial⟩ ⟨?_, trivial⟩ rfl ⟨?_, ?_⟩ fin
        · have e : mapv (pre.map stV) ++ [SV.v (.iface 103 (.agg #[.int .i64 x.op, .int .i64 x.a, .int .i64 x.b]))] = mapv (pre.map stV ++ [.iface 103 (.agg #[.int .i64 x.op, .int .i64 x.a, .int .i64 x.b])]) := by rw [mapv_append]; rfl
          rw [show (mapv (pre.map stV) ++ [SV.v (.iface 103 (.agg #[.int .i64 x.op, .int .i64 x.a, .int .i64 x.b]))] : List SV) = mapv (pre.map stV ++ [.iface 103 (.agg #[.int .i64 x.op, .int .i64 x.a, .int .i64 x.b])]) from e]
          exact ren_row _ _ _ _ _
        · simp [stS1, wsAllT, ws]
        · simp only [stS1, wsAllH, HO.ws, and_true]; exact wsL_mapv _ _
    by_cases hkn : x.op = 5
    · have hrd := rd_n x.a x.b (.int .u64 (limb x.v 0 : Nat)) (.int .u64 (limb x.v 1 : Nat)) (.int .u64 (limb x.v 2 : Nat)) (.int .u64 (limb x.v 3 : Nat)) hkn
      have hu : usesN x = [x.a] := by unfold usesN; rw [if_pos (by omega)]
      have hsv : stV x = .iface 129 (.agg #[.int .i64 x.a]) := by unfold stV; rw [if_neg (by omega), if_neg (by omega), if_pos hkn]
      rw [hu] at hok
      cases hany : anyO (pre.length : Int) (intsC [x.a]) with
      | true =>
        rw [← anyO_ints, hany] at hok
        rw [ordN, hok] at hR
        simp only [Bool.not_true, Bool.and_false, Bool.false_and] at hR
        refine Ok.rnd (ok_plain hm (F0.mono w) (fun _ h => h) 60 _ _ _ _ (se1n ad n cap pre.length (l.length + 1) x.op x.a x.b (limb x.v 0 : Nat) (limb x.v 1 : Nat) (limb x.v 2 : Nat) (limb x.v 3 : Nat) (pre.map stV)) ⟨fun _ => ⟨?_, hnil _ _ _ hR⟩, trivial⟩)
        simp only [hold_cons, hold_nil, and_true]
        exact ⟨fun _ _ => s1, fun _ _ => s2, fun _ _ => trivial, hold_cells hx, fun _ _ => by omega, fun _ _ => by omega, fun _ _ => trivial, fun _ _ => hrd, fun _ _ => trivial, fun _ _ => trivial, fun _ _ => trivial, fun _ _ => trivial, fun _ _ => trivial, fun _ _ => ⟨rfl, trivial, by omega⟩, fun _ _ => hany⟩
      | false =>
        rw [← anyO_ints, hany, decide_eq_true (by omega)] at hok
        rw [ordN, hok] at hR
        simp only [Bool.not_false, Bool.and_true, Bool.true_and] at hR
        refine Ok.rnd (xgo_trim hm (F0.mono w) finB 60 _ _ _ _ _ _ (st1n ad n cap pre.length (l.length + 1) x.op x.a x.b (limb x.v 0 : Nat) (limb x.v 1 : Nat) (limb x.v 2 : Nat) (limb x.v 3 : Nat) (pre.map stV) _) (paidCons (fun _ => ⟨?_, ?_⟩) paidNil))
        · simp only [hold_cons, hold_nil, and_true]
          exact ⟨fun _ _ => s1, fun _ _ => s2, fun _ _ => trivial, hold_cells hx, fun _ _ => by omega, fun _ _ => by omega, fun _ _ => trivial, fun _ _ => hrd, fun _ _ => trivial, fun _ _ => trivial, fun _ _ => trivial, fun _ _ => trivial, fun _ _ => trivial, fun _ _ => ⟨rfl, trivial, by omega⟩, fun _ _ => hany, fun _ _ => ⟨by omega, by omega⟩⟩
        · have hlen : (pre ++ [x]).length = pre.length + 1 := by simp
          have fin := steps_loop1 (some ad) n cap all hn hb ha R hnil l (pre ++ [x]) (by rw [he]; simp) (by rw [hlen]; exact hR)
          rw [List.map_append, List.map_cons, List.map_nil, hsv, hlen] at fin
          simp only [wrap_inc pre.length (by omega)]
          refine Ok.weaken (st' := stS1 (some ad) n cap (pre.length + 1) (pre.map stV ++ [.iface 129 (.agg #[.int .i64 x.a])])) (F0.mono w) [5] ⟨rfl, rfl, rfl, rfl, rfl, rfl, trivial⟩ ⟨?_, trivial⟩ rfl ⟨?_, ?_⟩ fin
          · have e : mapv (pre.map stV) ++ [SV.v (.iface 129 (.agg #[.int .i64 x.a]))] = mapv (pre.map stV ++ [.iface 129 (.agg #[.int .i64 x.a])]) := by rw [mapv_append]; rfl
            rw [show (mapv (pre.map stV) ++ [SV.v (.iface 129 (.agg #[.int .i64 x.a]))] : List SV) = mapv (pre.map stV ++ [.iface 129 (.agg #[.int .i64 x.a])]) from e]
            exact ren_row _ _ _ _ _
          · simp [stS1, wsAllT, ws]
          · simp only [stS1, wsAllH, HO.ws, and_true]; exact wsL_mapv _ _
    by_cases hka : x.op = 6
    · have hrd := rd_a x.a x.b (.int .u64 (limb x.v 0 : Nat)) (.int .u64 (limb x.v 1 : Nat)) (.int .u64 (limb x.v 2 : Nat)) (.int .u64 (limb x.v 3 : Nat)) hka
      have hu : usesN x = [x.a, x.b] := by unfold usesN; rw [if_neg (by omega), if_pos (by omega)]
      have hsv : stV x = .iface 131 (.agg #[.int .i64 x.a, .int .i64 x.b]) := by unfold stV; rw [if_neg (by omega), if_neg (by omega), if_neg (by omega), if_pos hka]
      rw [hu] at hok
      cases hany : anyO (pre.length : Int) (intsC [x.a, x.b]) with
      | true =>
        rw [← anyO_ints, hany] at hok
        rw [ordN, hok] at hR
        simp only [Bool.not_true, Bool.and_false, Bool.false_and] at hR
        refine Ok.rnd (ok_plain hm (F0.mono w) (fun _ h => h) 60 _ _ _ _ (se1a ad n cap pre.length (l.length + 1) x.op x.a x.b (limb x.v 0 : Nat) (limb x.v 1 : Nat) (limb x.v 2 : Nat) (limb x.v 3 : Nat) (pre.map stV)) ⟨fun _ => ⟨?_, hnil _ _ _ hR⟩, trivial⟩)
        simp only [hold_cons, hold_nil, and_true]
        exact ⟨fun _ _ => s1, fun _ _ => s2, fun _ _ => trivial, hold_cells hx, fun _ _ => by omega, fun _ _ => by omega, fun _ _ => trivial, fun _ _ => hrd, fun _ _ => trivial, fun _ _ => trivial, fun _ _ => trivial, fun _ _ => trivial, fun _ _ => trivial, fun _ _ => ⟨rfl, trivial, by omega⟩, fun _ _ => hany⟩
      | false =>
        rw [← anyO_ints, hany, decide_eq_true (by omega)] at hok
        rw [ordN, hok] at hR
        simp only [Bool.not_false, Bool.and_true, Bool.true_and] at hR
        refine Ok.rnd (xgo_trim hm (F0.mono w) finB 60 _ _ _ _ _ _ (st1a ad n cap pre.length (l.length + 1) x.op x.a x.b (limb x.v 0 : Nat) (limb x.v 1 : Nat) (limb x.v 2 : Nat) (limb x.v 3 : Nat) (pre.map stV) _) (paidCons (fun _ => ⟨?_, ?_⟩) paidNil))
        · simp only [hold_cons, hold_nil, and_true]
          exact ⟨fun _ _ => s1, fun _ _ => s2, fun _ _ => trivial, hold_cells hx, fun _ _ => by omega, fun _ _ => by omega, fun _ _ => trivial, fun _ _ => hrd, fun _ _ => trivial, fun _ _ => trivial, fun _ _ => trivial, fun _ _ => trivial, fun _ _ => trivial, fun _ _ => ⟨rfl, trivial, by omega⟩, fun _ _ => hany, fun _ _ => ⟨by omega, by omega⟩⟩
        · have hlen : (pre ++ [x]).length = pre.length + 1 := by simp
          have fin := steps_loop1 (some ad) n cap all hn hb ha R hnil l (pre ++ [x]) (by rw [he]; simp) (by rw [hlen]; exact hR)
          rw [List.map_append, List.map_cons, List.map_nil, hsv, hlen] at fin
          simp only [wrap_inc pre.length (by omega)]
          refine Ok.weaken (st' := stS1 (some ad) n cap (pre.length + 1) (pre.map stV ++ [.iface 131 (.agg #[.int .i64 x.a, .int .i64 x.b])])) (F0.mono w) [5] ⟨rfl, rfl, rfl, rfl, rfl, rfl, trivial⟩ ⟨?_, trivial⟩ rfl ⟨?_, ?_⟩ fin
          · have e : mapv (pre.map stV) ++ [SV.v (.iface 131 (.agg #[.int .i64 x.a, .int .i64 x.b]))] = mapv (pre.map stV ++ [.iface 131 (.agg #[.int .i64 x.a, .int .i64 x.b])]) := by rw [mapv_append]; rfl
            rw [show (mapv (pre.map stV) ++ [SV.v (.iface 131 (.agg #[.int .i64 x.a, .int .i64 x.b]))] : List SV) = mapv (pre.map stV ++ [.iface 131 (.agg #[.int .i64 x.a, .int .i64 x.b])]) from e]
            exact ren_row _ _ _ _ _
          · simp [stS1, wsAllT, ws]
          · simp only [stS1, wsAllH, HO.ws, and_true]; exact wsL_mapv _ _
    by_cases hkm : x.op = 7
    · have hrd := rd_m x.a x.b (.int .u64 (limb x.v 0 : Nat)) (.int .u64 (limb x.v 1 : Nat)) (.int .u64 (limb x.v 2 : Nat)) (.int .u64 (limb x.v 3 : Nat)) hkm
      have hu : usesN x = [x.a, x.b] := by unfold usesN; rw [if_neg (by omega), if_pos (by omega)]
      have hsv : stV x = .iface 132 (.agg #[.int .i64 x.a, .int .i64 x.b]) := by unfold stV; rw [if_neg (by omega), if_neg (by omega), if_neg (by omega), if_neg (by omega), if_pos hkm]
      rw [hu] at hok
      cases hany : anyO (pre.length : Int) (intsC [x.a, x.b]) with
      | true =>
        rw [← anyO_ints, hany] at hok
        rw [ordN, hok] at hR
        simp only [Bool.not_true, Bool.and_false, Bool.false_and] at hR
        refine Ok.rnd (ok_plain hm (F0.mono w) (fun _ h => h) 60 _ _ _ _ (se1m ad n cap pre.length (l.length + 1) x.op x.a x.b (limb x.v 0 : Nat) (limb x.v 1 : Nat) (limb x.v 2 : Nat) (limb x.v 3 : Nat) (pre.map stV)) ⟨fun _ => ⟨?_, hnil _ _ _ hR⟩, trivial⟩)
        simp only [hold_cons, hold_nil, and_true]
        exact ⟨fun _ _ => s1, fun _ _ => s2, fun _ _ => trivial, hold_cells hx, fun _ _ => by omega, fun _ _ => by omega, fun _ _ => trivial, fun _ _ => hrd, fun _ _ => trivial, fun _ _ => trivial, fun _ _ => trivial, fun _ _ => trivial, fun _ _ => trivial, fun _ _ => ⟨rfl, trivial, by omega⟩, fun _ _ => hany⟩
      | false =>
        rw [← anyO_ints, hany, decide_eq_true (by omega)] at hok
        rw [ordN, hok] at hR
        simp only [Bool.not_false, Bool.and_true, Bool.true_and] at hR
        refine Ok.rnd (xgo_trim hm (F0.mono w) finB 60 _ _ _ _ _ _ (st1m ad n cap pre.length (l.length + 1) x.op x.a x.b (limb x.v 0 : Nat) (limb x.v 1 : Nat) (limb x.v 2 : Nat) (limb x.v 3 : Nat) (pre.map stV) _) (paidCons (fun _ => ⟨?_, ?_⟩) paidNil))
        · simp only [hold_cons, hold_nil, and_true]
          exact ⟨fun _ _ => s1, fun _ _ => s2, fun _ _ => trivial, hold_cells hx, fun _ _ => by omega, fun _ _ => by omega, fun _ _ => trivial, fun _ _ => hrd, fun _ _ => trivial, fun _ _ => trivial, fun _ _ => trivial, fun _ _ => trivial, fun _ _ => trivial, fun _ _ => ⟨rfl, trivial, by omega⟩, fun _ _ => hany, fun _ _ => ⟨by omega, by omega⟩⟩
        · have hlen : (pre ++ [x]).length = pre.length + 1 := by simp
          have fin := steps_loop1 (some ad) n cap all hn hb ha R hnil l (pre ++ [x]) (by rw [he]; simp) (by rw [hlen]; exact hR)
          rw [List.map_append, List.map_cons, List.map_nil, hsv, hlen] at fin
          simp only [wrap_inc pre.length (by omega)]
          refine Ok.weaken (st' := stS1 (some ad) n cap (pre.length + 1) (pre.map stV ++ [.iface 132 (.agg #[.int .i64 x.a, .int .i64 x.b])])) (F0.mono w) [5] ⟨rfl, rfl, rfl, rfl, rfl, rfl, trivial⟩ ⟨?_, trivial⟩ rfl ⟨?_, ?_⟩ fin
          · have e : mapv (pre.map stV) ++ [SV.v (.iface 132 (.agg #[.int .i64 x.a, .int .i64 x.b]))] = mapv (pre.map stV ++ [.iface 132 (.agg #[.int .i64 x.a, .int .i64 x.b])]) := by rw [mapv_append]; rfl
            rw [show (mapv (pre.map stV) ++ [SV.v (.iface 132 (.agg #[.int .i64 x.a, .int .i64 x.b]))] : List SV) = mapv (pre.map stV ++ [.iface 132 (.agg #[.int .i64 x.a, .int .i64 x.b])]) from e]
            exact ren_row _ _ _ _ _
          · simp [stS1, wsAllT, ws]
          · simp only [stS1, wsAllH, HO.ws, and_true]; exact wsL_mapv _ _
    by_cases hks : x.op = 8
    · have hrd := rd_s x.a x.b (.int .u64 (limb x.v 0 : Nat)) (.int .u64 (limb x.v 1 : Nat)) (.int .u64 (limb x.v 2 : Nat)) (.int .u64 (limb x.v 3 : Nat)) hks
      have hu : usesN x = [x.a] := by unfold usesN; rw [if_pos (by omega)]
      have hsv : stV x = .iface 134 (.agg #[.int .i64 x.a, .int .u64 (limb x.v 0 : Nat), .int .u64 (limb x.v 1 : Nat), .int .u64 (limb x.v 2 : Nat), .int .u64 (limb x.v 3 : Nat)]) := by unfold stV; rw [if_neg (by omega), if_neg (by omega), if_neg (by omega), if_neg (by omega), if_neg (by omega), if_pos hks]
      rw [hu] at hok
      cases hany : anyO (pre.length : Int) (intsC [x.a]) with
      | true =>
        rw [← anyO_ints, hany] at hok
        rw [ordN, hok] at hR
        simp only [Bool.not_true, Bool.and_false, Bool.false_and] at hR
        refine Ok.rnd (ok_plain hm (F0.mono w) (fun _ h => h) 60 _ _ _ _ (se1s ad n cap pre.length (l.length + 1) x.op x.a x.b (limb x.v 0 : Nat) (limb x.v 1 : Nat) (limb x.v 2 : Nat) (limb x.v 3 : Nat) (pre.map stV)) ⟨fun _ => ⟨?_, hnil _ _ _ hR⟩, trivial⟩)
        simp only [hold_cons, hold_nil, and_true]
        exact ⟨fun _ _ => s1, fun _ _ => s2, fun _ _ => trivial, hold_cells hx, fun _ _ => by omega, fun _ _ => by omega, fun _ _ => trivial, fun _ _ => hrd, fun _ _ => trivial, fun _ _ => trivial, fun _ _ => trivial, fun _ _ => trivial, fun _ _ => trivial, fun _ _ => ⟨rfl, trivial, by omega⟩, fun _ _ => hany⟩
      | false =>
        rw [← anyO_ints, hany, decide_eq_true (by omega)] at hok
        rw [ordN, hok] at hR
        simp only [Bool.not_false, Bool.and_true, Bool.true_and] at hR
        refine Ok.rnd (xgo_trim hm (F0.mono w) finB 60 _ _ _ _ _ _ (st1s ad n cap pre.length (l.length + 1) x.op x.a x.b (limb x.v 0 : Nat) (limb x.v 1 : Nat) (limb x.v 2 : Nat) (limb x.v 3 : Nat) (pre.map stV) _) (paidCons (fun _ => ⟨?_, ?_⟩) paidNil))
        · simp only [hold_cons, hold_nil, and_true]
          exact ⟨fun _ _ => s1, fun _ _ => s2, fun _ _ => trivial, hold_cells hx, fun _ _ => by omega, fun _ _ => by omega, fun _ _ => trivial, fun _ _ => hrd, fun _ _ => trivial, fun _ _ => trivial, fun _ _ => trivial, fun _ _ => trivial, fun _ _ => trivial, fun _ _ => ⟨rfl, trivial, by omega⟩, fun _ _ => hany, fun _ _ => ⟨by omega, by omega⟩⟩
        · have hlen : (pre ++ [x]).length = pre.length + 1 := by simp
          have fin := steps_loop1 (some ad) n cap all hn hb ha R hnil l (pre ++ [x]) (by rw [he]; simp) (by rw [hlen]; exact hR)
          rw [List.map_append, List.map_cons, List.map_nil, hsv, hlen] at fin
          simp only [wrap_inc pre.length (by omega)]
          refine Ok.weaken (st' := stS1 (some ad) n cap (pre.length + 1) (pre.map stV ++ [.iface 134 (.agg #[.int .i64 x.a, .int .u64 (limb x.v 0 : Nat), .int .u64 (limb x.v 1 : Nat), .int .u64 (limb x.v 2 : Nat), .int .u64 (limb x.v 3 : Nat)])])) (F0.mono w) [5] ⟨rfl, rfl, rfl, rfl, rfl, rfl, trivial⟩ ⟨?_, trivial⟩ rfl ⟨?_, ?_⟩ fin
          · have e : mapv (pre.map stV) ++ [SV.v (.iface 134 (.agg #[.int .i64 x.a, .int .u64 (limb x.v 0 : Nat), .int .u64 (limb x.v 1 : Nat), .int .u64 (limb x.v 2 : Nat), .int .u64 (limb x.v 3 : Nat)]))] = mapv (pre.map stV ++ [.iface 134 (.agg #[.int .i64 x.a, .int .u64 (limb x.v 0 : Nat), .int .u64 (limb x.v 1 : Nat), .int .u64 (limb x.v 2 : Nat), .int .u64 (limb x.v 3 : Nat)])]) := by rw [mapv_append]; rfl
            rw [show (mapv (pre.map stV) ++ [SV.v (.iface 134 (.agg #[.int .i64 x.a, .int .u64 (limb x.v 0 : Nat), .int .u64 (limb x.v 1 : Nat), .int .u64 (limb x.v 2 : Nat), .int .u64 (limb x.v 3 : Nat)]))] : List SV) = mapv (pre.map stV ++ [.iface 134 (.agg #[.int .i64 x.a, .int .u64 (limb x.v 0 : Nat), .int .u64 (limb x.v 1 : Nat), .int .u64 (limb x.v 2 : Nat), .int .u64 (limb x.v 3 : Nat)])]) from e]
            exact ren_row _ _ _ _ _
          · simp [stS1, wsAllT, ws]
          · simp only [stS1, wsAllH, HO.ws, and_true]; exact wsL_mapv _ _
    have hrd := rd_x x.a x.b (.int .u64 (limb x.v 0 : Nat)) (.int .u64 (limb x.v 1 : Nat)) (.int .u64 (limb x.v 2 : Nat)) (.int .u64 (limb x.v 3 : Nat)) (op := x.op) (by omega)
    rw [decide_eq_false (by omega), Bool.false_and] at hok
    rw [ordN, hok, Bool.false_and] at hR
    refine Ok.rnd (ok_plain hm (F0.mono w) (fun _ h => h) 60 _ _ _ _ (se1x ad n cap pre.length (l.length + 1) x.op x.a x.b (limb x.v 0 : Nat) (limb x.v 1 : Nat) (limb x.v 2 : Nat) (limb x.v 3 : Nat) (pre.map stV)) ⟨fun _ => ⟨?_, hnil _ _ _ hR⟩, trivial⟩)
    simp only [hold_cons, hold_nil, and_true]
    exact ⟨fun _ _ => s1, fun _ _ => s2, fun _ _ => trivial, hold_cells hx, fun _ _ => by omega, fun _ _ => by omega, fun _ _ => trivial, fun _ _ => hrd, fun _ _ => trivial⟩
theorem steps_loop0 {w : World} (oa : Option Addr) (n cap : Nat) (all : List Nd) (hn : all.length = n) (hb : n ≤ 4398046511104) (ha : nodesC all = [] ∨ MCells (wmem w) oa (nodesC all)) (R : Res → Prop) (hnil : ∀ (T sz : Nat) (b : Bool), R (.rt T sz 0 [] [.bool b]) → R (.v (.tuple (Array.mk [.slice none 0 0, .bool b])))) :
    ∀ (l : List Nd), all = l → R (stepsR all (ordN 0 l)) →
    Ok Try.prog (bodyOf Try.f50) 43 (F0 w) w (bodyPost Try.prog Try.f50 fun E w' => ∃ v r, E = .returned v ∧ R r ∧ r.ok w w' v ∧ Below w.heap.size w w') (.rnd [0,0,1,0,1,1] (l.length + 2) :: [.blk 0, .at [1,1,1]]) (stS0 oa n cap)
  | [], he, hR => by
    have hl : n = 0 := by rw [← hn, he]; rfl
    refine Ok.rnd (ok_plain hm (F0.mono w) (fun _ h => h) 60 _ _ _ _ (sn0 oa n cap 0) ⟨fun _ => ⟨?_, ?_⟩, trivial⟩)
    · simp only [hold_cons, hold_nil, and_true]
      exact fun _ _ => decide_eq_false (by omega)
    · rw [he] at hR
      exact hnil 82 1 true hR
  | x :: l, he, hR => by
    have hl : l.length + 1 = n := by rw [← hn, he]; simp
    have hne : MCells (wmem w) oa (nodesC all) := by
      rcases ha with h | h
      · rw [he, nodesC_cons] at h; simp [ndC] at h
      · exact h
    obtain ⟨ad, rfl, hcells⟩ := hne
    have hx : MCells (wmem w) (some (ad.add (0 * 7))) (ndC x) := nodes_at [] l x (by rw [List.nil_append, ← he]; exact ⟨ad, rfl, hcells⟩)
    have s1 : decide ((0 : Int) < (n : Int)) = true := decide_eq_true (by omega)
    have s2 : (0 : Int) ≤ 0 ∧ (0 : Int) < (n : Int) := ⟨by omega, by omega⟩
    have hok := okN_eq 0 x
    by_cases hkc : x.op = 1
    · have hrd := rd_c x.a x.b (.int .u64 (limb x.v 0 : Nat)) (.int .u64 (limb x.v 1 : Nat)) (.int .u64 (limb x.v 2 : Nat)) (.int .u64 (limb x.v 3 : Nat)) hkc
      have hu : usesN x = [] := by unfold usesN; rw [if_neg (by omega), if_neg (by omega)]
      have hsv : stV x = .iface 102 (.agg #[.int .u64 (limb x.v 0 : Nat), .int .u64 (limb x.v 1 : Nat), .int .u64 (limb x.v 2 : Nat), .int .u64 (limb x.v 3 : Nat)]) := by unfold stV; rw [if_pos hkc]
      rw [hu] at hok
      rw [List.any_nil, Bool.not_false, Bool.and_true, decide_eq_true (by omega)] at hok
      rw [ordN, hok, Bool.true_and] at hR
      refine Ok.rnd (xgo_trim hm (F0.mono w) finB 60 _ _ _ _ _ _ (st0c ad n cap (l.length + 1) x.op x.a x.b (limb x.v 0 : Nat) (limb x.v 1 : Nat) (limb x.v 2 : Nat) (limb x.v 3 : Nat) _) (paidCons (fun _ => ⟨?_, ?_⟩) paidNil))
      · simp only [hold_cons, hold_nil, and_true]
        exact ⟨fun _ _ => s1, fun _ _ => s2, fun _ _ => trivial, hold_cells hx, fun _ _ => by omega, fun _ _ => by omega, fun _ _ => trivial, fun _ _ => hrd, fun _ _ => trivial, fun _ _ => trivial, fun _ _ => trivial, fun _ _ => ⟨by omega, by omega⟩⟩
      · have fin := steps_loop1 (w := w) (some ad) n cap all hn hb ha R hnil l [x] (by rw [he]; rfl) hR
        simp only [List.map_cons, List.map_nil, hsv] at fin
        exact Ok.weaken (st' := stS1 (some ad) n cap 1 [.iface 102 (.agg #[.int .u64 (limb x.v 0 : Nat), .int .u64 (limb x.v 1 : Nat), .int .u64 (limb x.v 2 : Nat), .int .u64 (limb x.v 3 : Nat)])]) (F0.mono w) [3] ⟨rfl, rfl, rfl, rfl, rfl, rfl, trivial⟩ ⟨rfl, trivial⟩ rfl ⟨by simp [stS1, wsAllT, ws], by simp [stS1, mapv, wsAllH, HO.ws, wsL, ws]⟩ fin
    by_cases hkq : 2 ≤ x.op ∧ x.op ≤ 4
    · have hrd := rd_q x.a x.b (.int .u64 (limb x.v 0 : Nat)) (.int .u64 (limb x.v 1 : Nat)) (.int .u64 (limb x.v 2 : Nat)) (.int .u64 (limb x.v 3 : Nat)) hkq
      have hu : usesN x = [] := by unfold usesN; rw [if_neg (by omega), if_neg (by omega)]
      have hsv : stV x = .iface 103 (.agg #[.int .i64 x.op, .int .i64 x.a, .int .i64 x.b]) := by unfold stV; rw [if_neg (by omega), if_pos hkq]
      rw [hu] at hok
      rw [List.any_nil, Bool.not_false, Bool.and_true, decide_eq_true (by omega)] at hok
      rw [ordN, hok, Bool.true_and] at hR
      refine Ok.rnd (xgo_trim hm (F0.mono w) finB 60 _ _ _ _ _ _ (st0q ad n cap (l.length + 1) x.op x.a x.b (limb x.v 0 : Nat) (limb x.v 1 : Nat) (limb x.v 2 : Nat) (limb x.v 3 : Nat) _) (paidCons (fun _ => ⟨?_, ?_⟩) paidNil))
      · simp only [hold_cons, hold_nil, and_true]
        exact ⟨fun _ _ => s1, fun _ _ => s2, fun _ _ => trivial, hold_cells hx, fun _ _ => by omega, fun _ _ => by omega, fun _ _ => trivial, fun _ _ => hrd, fun _ _ => trivial, fun _ _ => trivial, fun _ _ => trivial, fun _ _ => ⟨by omega, by omega⟩⟩
      · have fin := steps_loop1 (w := w) (some ad) n cap all hn hb ha R hnil l [x] (by rw [he]; rfl) hR
        simp only [List.map_cons, List.map_nil, hsv] at fin
        exact Ok.weaken (st' := stS1 (some ad) n cap 1 [.iface 103 (.agg #[.int .i64 x.op, .int .i64 x.a, .int .i64 x.b])]) (F0.mono w) [3] ⟨rfl, rfl, rfl, rfl, rfl, rfl, trivial⟩ ⟨rfl, trivial⟩ rfl ⟨by simp [stS1, wsAllT, ws], by simp [stS1, mapv, wsAllH, HO.ws, wsL, ws]⟩ fin
    by_cases hkn : x.op = 5
    · have hrd := rd_n x.a x.b (.int .u64 (limb x.v 0 : Nat)) (.int .u64 (limb x.v 1 : Nat)) (.int .u64 (limb x.v 2 : Nat)) (.int .u64 (limb x.v 3 : Nat)) hkn
      have hu : usesN x = [x.a] := by unfold usesN; rw [if_pos (by omega)]
      have hsv : stV x = .iface 129 (.agg #[.int .i64 x.a]) := by unfold stV; rw [if_neg (by omega), if_neg (by omega), if_pos hkn]
      rw [hu] at hok
      have hany : anyO 0 (intsC [x.a]) = true := by
        rw [anyO_ints]
        simp only [List.any_cons, Bool.or_eq_true]
        left
        rw [outB, decide_eq_true_iff]
        omega
      rw [← anyO_ints, show ((0 : Nat) : Int) = 0 from rfl, hany] at hok
      rw [ordN, hok] at hR
      simp only [Bool.not_true, Bool.and_false, Bool.false_and] at hR
      refine Ok.rnd (ok_plain hm (F0.mono w) (fun _ h => h) 60 _ _ _ _ (se0n ad n cap (l.length + 1) x.op x.a x.b (limb x.v 0 : Nat) (limb x.v 1 : Nat) (limb x.v 2 : Nat) (limb x.v 3 : Nat)) ⟨fun _ => ⟨?_, hnil _ _ _ hR⟩, trivial⟩)
      simp only [hold_cons, hold_nil, and_true]
      exact ⟨fun _ _ => s1, fun _ _ => s2, fun _ _ => trivial, hold_cells hx, fun _ _ => by omega, fun _ _ => by omega, fun _ _ => trivial, fun _ _ => hrd, fun _ _ => trivial, fun _ _ => trivial, fun _ _ => trivial, fun _ _ => trivial, fun _ _ => trivial, fun _ _ => ⟨rfl, trivial, by omega⟩, fun _ _ => hany⟩
    by_cases hka : x.op = 6
    · have hrd := rd_a x.a x.b (.int .u64 (limb x.v 0 : Nat)) (.int .u64 (limb x.v 1 : Nat)) (.int .u64 (limb x.v 2 : Nat)) (.int .u64 (limb x.v 3 : Nat)) hka
      have hu : usesN x = [x.a, x.b] := by unfold usesN; rw [if_neg (by omega), if_pos (by omega)]
      have hsv : stV x = .iface 131 (.agg #[.int .i64 x.a, .int .i64 x.b]) := by unfold stV; rw [if_neg (by omega), if_neg (by omega), if_neg (by omega), if_pos hka]
      rw [hu] at hok
      have hany : anyO 0 (intsC [x.a, x.b]) = true := by
        rw [anyO_ints]
        simp only [List.any_cons, Bool.or_eq_true]
        left
        rw [outB, decide_eq_true_iff]
        omega
      rw [← anyO_ints, show ((0 : Nat) : Int) = 0 from rfl, hany] at hok
      rw [ordN, hok] at hR
      simp only [Bool.not_true, Bool.and_false, Bool.false_and] at hR
      refine Ok.rnd (ok_plain hm (F0.mono w) (fun _ h => h) 60 _ _ _ _ (se0a ad n cap (l.length + 1) x.op x.a x.b (limb x.v 0 : Nat) (limb x.v 1 : Nat) (limb x.v 2 : Nat) (limb x.v 3 : Nat)) ⟨fun _ => ⟨?_, hnil _ _ _ hR⟩, trivial⟩)
      simp only [hold_cons, hold_nil, and_true]
      exact ⟨fun _ _ => s1, fun _ _ => s2, fun _ _ => trivial, hold_cells hx, fun _ _ => by omega, fun _ _ => by omega, fun _ _ => trivial, fun _ _ => hrd, fun _ _ => trivial, fun _ _ => trivial, fun _ _ => trivial, fun _ _ => trivial, fun _ _ => trivial, fun _ _ => ⟨rfl, trivial, by omega⟩, fun _ _ => hany⟩
    by_cases hkm : x.op = 7
    · have hrd := rd_m x.a x.b (.int .u64 (limb x.v 0 : Nat)) (.int .u64 (limb x.v 1 : Nat)) (.int .u64 (limb x.v 2 : Nat)) (.int .u64 (limb x.v 3 : Nat)) hkm
      have hu : usesN x = [x.a, x.b] := by unfold usesN; rw [if_neg (by omega), if_pos (by omega)]
      have hsv : stV x = .iface 132 (.agg #[.int .i64 x.a, .int .i64 x.b]) := by unfold stV; rw [if_neg (by omega), if_neg (by omega), if_neg (by omega), if_neg (by omega), if_pos hkm]
      rw [hu] at hok
      have hany : anyO 0 (intsC [x.a, x.b]) = true := by
        rw [anyO_ints]
        simp only [List.any_cons, Bool.or_eq_true]
        left
        rw [outB, decide_eq_true_iff]
        omega
      rw [← anyO_ints, show ((0 : Nat) : Int) = 0 from rfl, hany] at hok
      rw [ordN, hok] at hR
      simp only [Bool.not_true, Bool.and_false, Bool.false_and] at hR
      refine Ok.rnd (ok_plain hm (F0.mono w) (fun _ h => h) 60 _ _ _ _ (se0m ad n cap (l.length + 1) x.op x.a x.b (limb x.v 0 : Nat) (limb x.v 1 : Nat) (limb x.v 2 : Nat) (limb x.v 3 : Nat)) ⟨fun _ => ⟨?_, hnil _ _ _ hR⟩, trivial⟩)
      simp only [hold_cons, hold_nil, and_true]
      exact ⟨fun _ _ => s1, fun _ _ => s2, fun _ _ => trivial, hold_cells hx, fun _ _ => by omega, fun _ _ => by omega, fun _ _ => trivial, fun _ _ => hrd, fun _ _ => trivial, fun _ _ => trivial, fun _ _ => trivial, fun _ _ => trivial, fun _ _ => trivial, fun _ _ => ⟨rfl, trivial, by omega⟩, fun _ _ => hany⟩
    by_cases hks : x.op = 8
    · have hrd := rd_s x.a x.b (.int .u64 (limb x.v 0 : Nat)) (.int .u64 (limb x.v 1 : Nat)) (.int .u64 (limb x.v 2 : Nat)) (.int .u64 (limb x.v 3 : Nat)) hks
      have hu : usesN x = [x.a] := by unfold usesN; rw [if_pos (by omega)]
      have hsv : stV x = .iface 134 (.agg #[.int .i64 x.a, .int .u64 (limb x.v 0 : Nat), .int .u64 (limb x.v 1 : Nat), .int .u64 (limb x.v 2 : Nat), .int .u64 (limb x.v 3 : Nat)]) := by unfold stV; rw [if_neg (by omega), if_neg (by omega), if_neg (by omega), if_neg (by omega), if_neg (by omega), if_pos hks]
      rw [hu] at hok
      have hany : anyO 0 (intsC [x.a]) = true := by
        rw [anyO_ints]
        simp only [List.any_cons, Bool.or_eq_true]
        left
        rw [outB, decide_eq_true_iff]
        omega
      rw [← anyO_ints, show ((0 : Nat) : Int) = 0 from rfl, hany] at hok
      rw [ordN, hok] at hR
      simp only [Bool.not_true, Bool.and_false, Bool.false_and] at hR
      refine Ok.rnd (ok_plain hm (F0.mono w) (fun _ h => h) 60 _ _ _ _ (se0s ad n cap (l.length + 1) x.op x.a x.b (limb x.v 0 : Nat) (limb x.v 1 : Nat) (limb x.v 2 : Nat) (limb x.v 3 : Nat)) ⟨fun _ => ⟨?_, hnil _ _ _ hR⟩, trivial⟩)
      simp only [hold_cons, hold_nil, and_true]
      exact ⟨fun _ _ => s1, fun _ _ => s2, fun _ _ => trivial, hold_cells hx, fun _ _ => by omega, fun _ _ => by omega, fun _ _ => trivial, fun _ _ => hrd, fun _ _ => trivial, fun _ _ => trivial, fun _ _ => trivial, fun _ _ => trivial, fun _ _ => trivial, fun _ _ => ⟨rfl, trivial, by omega⟩, fun _ _ => hany⟩
    have hrd := rd_x x.a x.b (.int .u64 (limb x.v 0 : Nat)) (.int .u64 (limb x.v 1 : Nat)) (.int .u64 (limb x.v 2 : Nat)) (.int .u64 (limb x.v 3 : Nat)) (op := x.op) (by omega)
    rw [decide_eq_false (by omega), Bool.false_and] at hok
    rw [ordN, hok, Bool.false_and] at hR
    refine Ok.rnd (ok_plain hm (F0.mono w) (fun _ h => h) 60 _ _ _ _ (se0x ad n cap (l.length + 1) x.op x.a x.b (limb x.v 0 : Nat) (limb x.v 1 : Nat) (limb x.v 2 : Nat) (limb x.v 3 : Nat)) ⟨fun _ => ⟨?_, hnil _ _ _ hR⟩, trivial⟩)
    simp only [hold_cons, hold_nil, and_true]
    exact ⟨fun _ _ => s1, fun _ _ => s2, fun _ _ => trivial, hold_cells hx, fun _ _ => by omega, fun _ _ => by omega, fun _ _ => trivial, fun _ _ => hrd, fun _ _ => trivial⟩
theorem nilRow (w w' : World) (T : TypeId) (sz : Nat) : Go.Sx.newRow w w' T sz (.slice none 0 0) 0 [] := ⟨⟨by simp, .inl ⟨rfl, rfl⟩⟩, by simp⟩
theorem con_end2 {P : Program} {f : FuncId} {args : List Value} {w : World} {r0 : Res} (h : Calls P f args.toArray w (fun E w' => ∃ (v : Value) (r : Res), E = .returned v ∧ (∀ w w' v, r.ok w w' v → r0.ok w w' v) ∧ r.ok w w' v ∧ Below w.heap.size w w')) :
    Calls P f args.toArray w (fun E w' => ∃ v, E = .returned v ∧ r0.ok w w' v ∧ Below w.heap.size w w') := h.mono fun _ _ ⟨v, r, h1, h2, h3, h4⟩ => ⟨v, h1, h2 _ _ _ h3, h4⟩
theorem steps_ok (oa : Option Addr) (n cap : Nat) (all : List Nd) (hn : all.length = n) (hb : n ≤ 4398046511104) (w : World) (ha : nodesC all = [] ∨ MCells (wmem w) oa (nodesC all)) :
    Calls Try.prog 50 [.slice oa n cap].toArray w (fun E w' => ∃ v, E = .returned v ∧ (stepsR all (ordN 0 all)).ok w w' v ∧ Below w.heap.size w w') := by
  refine con_end2 (calls_of_ok (B := bodyOf Try.f50) (n := 43) Try.func50 (by kernel_rfl) rfl rfl (F := F0 w) (fun _ _ h => h) ?_)
  refine xgo_trim hm (F0.mono w) finB 60 _ _ _ _ _ _ (sS oa n cap) (paidCons (fun _ => ⟨?_, ?_⟩) paidNil)
  · simp only [hold_nil]
  · refine ok_mono (st := stS0 oa n cap) rfl (Ok.loop (all.length + 2) (by kernel_rfl) (steps_loop0 oa n cap all hn hb ha (fun r => ∀ w w' v, r.ok w w' v → (stepsR all (ordN 0 all)).ok w w' v) ?_ all rfl (fun _ _ _ h => h)))
    intro T sz b h w1 w2 v hv
    exact h w1 w2 v ⟨.slice none 0 0, hv, nilRow _ _ _ _⟩
end Go.Proofs.Ytpghmnpbfaichaa
