/- The document's side: what a node is made of. -/
import Derived.Test.YtpghmnpbfaichaaE16
namespace Go.Pl
open Go.Sx
def colR (w : List Bool) : Nat → Nat → List Int → List Int
  | 0, _, out => out
  | d + 1, i, out => colR w d (i + 1) (if w.getD i false then out ++ [(i : Int)] else out)
theorem colR_eq (w : List Bool) : ∀ (d i : Nat) (out : List Int), colR w d i out = out ++ ((List.range' i d).filter fun i => w.getD i false).map fun (i : Nat) => (i : Int)
  | 0, i, out => by simp [colR]
  | d + 1, i, out => by
    rw [colR, colR_eq w d (i + 1), List.range'_succ, List.filter_cons]
    cases w.getD i false with
    | true => simp
    | false => simp
theorem coneN_col {l : List Nd} (h : ordN 0 l = true) (k : Nat) (h1 : k < l.length) :
    coneN l (k : Int) = colR (marksN l (k + 1) ((List.replicate l.length false).set k true)) (k + 1) 0 [] := by
  rw [colR_eq, coneN, if_pos ⟨h, by omega, by omega⟩]
  simp only [Int.toNat_natCast, List.nil_append, List.range_eq_range']
theorem marksN_len (l : List Nd) : ∀ (i : Nat) (w : List Bool), (marksN l i w).length = w.length
  | 0, w => rfl
  | i + 1, w => by rw [marksN, marksN_len l i, markN_len]
theorem bool_get (w : List Bool) (k : Nat) (h : k < w.length) : (mapv (boolsC w))[(k : Int).toNat * 1]? = some (SV.v (.bool (w.getD k false))) := by
  rw [Int.toNat_natCast, Nat.mul_one, mapv_get _ _ (by simpa [boolsC] using h)]
  simp [boolsC, List.getD_eq_getElem?_getD, h]
theorem getD_set (w : List Bool) (k j : Nat) (h : w.getD k false = true) : (w.set j true).getD k false = true := by
  have hk : k < w.length := by
    apply Classical.byContradiction
    intro hh
    rw [List.getD_eq_getElem?_getD, List.getElem?_eq_none (by omega)] at h
    cases h
  rw [List.getD_eq_getElem?_getD] at h ⊢
  by_cases e : j = k
  · rw [e, List.getElem?_set_self hk]; rfl
  · rw [List.getElem?_set_ne e]; exact h
end Go.Pl
namespace Go.Proofs.Ytpghmnpbfaichaa
open Go.Sx Go.Pl Go.RowKit
set_option linter.unusedVariables false
theorem ro0 (ad : Addr) (n cap N M i : Nat) (r : Int) (bs : List Value) (op a b z0 z1 z2 z3 : Int) (kt : List It) : ((xgo Try.prog X (bodyOf Try.f43) 74 K17 [([0,1,1,0,0,1,0,0,1,0,1,1,1,1,1],3)] 90 [.t, .ld (.agg [.v (.int .i64 op), .v (.int .i64 a), .v (.int .i64 b), .v (.int .u64 z0), .v (.int .u64 z1), .v (.int .u64 z2), .v (.int .u64 z3)]), .f, .f] ((.nil)) (.at [0,0,1,0,1,1,1,1,1] :: .rnd [0,0,1,0,1,1,1,1,1] (M + 1) :: kt) ⟨[(7, .v (.int .i64 (i : Int))), (6, .o 1), (5, .o 0), (4, .v (.slice none 0 0)), (1, .v (.int .i64 r)), (0, .v (.slice (some ad) n cap))], [.row 3 1 0 [], .row 4 1 N (mapv bs)]⟩ [] []).map (trims [7, 6, 5, 4, 1, 0])) =
  some [Leaf2.mk [] [fun _ => decide ((0 : Int) ≤ (↑i : Int)) = true,
    fun _ => (0 : Int) ≤ (↑i : Int) ∧ (↑i : Int) < (↑n : Int),
    fun _ => true = true, fun M => MCells (fun a => M a) (some (if Int.toNat (↑i : Int) * (7 : Nat) = (0 : Nat) then ad else Addr.mk ad.1 (ad.2 + Int.toNat (↑i : Int) * (7 : Nat)) none)) [Value.int IntKind.i64 op, Value.int IntKind.i64 a, Value.int IntKind.i64 b, Value.int IntKind.u64 z0, Value.int IntKind.u64 z1, Value.int IntKind.u64 z2, Value.int IntKind.u64 z3],
    fun _ => True,
    fun _ => decide ((0 : Int) < (↑(usN op a b) : Int)) = false,
    fun _ => false = false] (It.rnd [(0 : Nat), (0 : Nat), (1 : Nat), (0 : Nat), (1 : Nat), (1 : Nat), (1 : Nat), (1 : Nat), (1 : Nat)] (M + (1 : Nat)) :: kt) (St.mk [((7 : Nat), SV.v (Value.int IntKind.i64 (IntKind.wrap IntKind.i64 ((↑i : Int) - (1 : Int))))), ((6 : Nat), SV.o (1 : Nat)), ((5 : Nat), SV.o (0 : Nat)), ((4 : Nat), SV.v (Value.slice none (0 : Nat) (0 : Nat))), ((1 : Nat), SV.v (Value.int IntKind.i64 r)), ((0 : Nat), SV.v (Value.slice (some ad) n cap))] [HO.row (3 : Nat) (1 : Nat) (0 : Nat) [], HO.row (4 : Nat) (1 : Nat) N (mapv bs), HO.row (3 : Nat) (1 : Nat) (usN op a b) (mapv (usL op a b))])]
  := by kernel_rfl

theorem rou (ad : Addr) (n cap N M i : Nat) (r : Int) (bs : List Value) (op a b z0 z1 z2 z3 : Int) (kt : List It) : ((xgo Try.prog X (bodyOf Try.f43) 74 K17 [([0,1,1,0,0,1,0,0,1,0,1,1,1,1,1],3)] 90 [.t, .ld (.agg [.v (.int .i64 op), .v (.int .i64 a), .v (.int .i64 b), .v (.int .u64 z0), .v (.int .u64 z1), .v (.int .u64 z2), .v (.int .u64 z3)]), .t, .lo 1 (.v (.bool false)), .f] ((.nil)) (.at [0,0,1,0,1,1,1,1,1] :: .rnd [0,0,1,0,1,1,1,1,1] (M + 1) :: kt) ⟨[(7, .v (.int .i64 (i : Int))), (6, .o 1), (5, .o 0), (4, .v (.slice none 0 0)), (1, .v (.int .i64 r)), (0, .v (.slice (some ad) n cap))], [.row 3 1 0 [], .row 4 1 N (mapv bs)]⟩ [] []).map (trims [7, 6, 5, 4, 1, 0])) =
  some [Leaf2.mk [] [fun _ => decide ((0 : Int) ≤ (↑i : Int)) = true,
    fun _ => (0 : Int) ≤ (↑i : Int) ∧ (↑i : Int) < (↑n : Int),
    fun _ => true = true, fun M => MCells (fun a => M a) (some (if Int.toNat (↑i : Int) * (7 : Nat) = (0 : Nat) then ad else Addr.mk ad.1 (ad.2 + Int.toNat (↑i : Int) * (7 : Nat)) none)) [Value.int IntKind.i64 op, Value.int IntKind.i64 a, Value.int IntKind.i64 b, Value.int IntKind.u64 z0, Value.int IntKind.u64 z1, Value.int IntKind.u64 z2, Value.int IntKind.u64 z3],
    fun _ => True,
    fun _ => decide ((0 : Int) < (↑(usN op a b) : Int)) = true,
    fun _ => (0 : Int) ≤ (↑i : Int) ∧ (↑i : Int) < (↑N : Int),
    fun _ => (0 : Nat) < List.length (mapv bs),
    fun _ => (mapv bs)[Int.toNat (↑i : Int) * (1 : Nat)]? = some (SV.v (Value.bool false)),
    fun _ => false = false] (It.rnd [(0 : Nat), (0 : Nat), (1 : Nat), (0 : Nat), (1 : Nat), (1 : Nat), (1 : Nat), (1 : Nat), (1 : Nat)] (M + (1 : Nat)) :: kt) (St.mk [((7 : Nat), SV.v (Value.int IntKind.i64 (IntKind.wrap IntKind.i64 ((↑i : Int) - (1 : Int))))), ((6 : Nat), SV.o (1 : Nat)), ((5 : Nat), SV.o (0 : Nat)), ((4 : Nat), SV.v (Value.slice none (0 : Nat) (0 : Nat))), ((1 : Nat), SV.v (Value.int IntKind.i64 r)), ((0 : Nat), SV.v (Value.slice (some ad) n cap))] [HO.row (3 : Nat) (1 : Nat) (0 : Nat) [], HO.row (4 : Nat) (1 : Nat) N (mapv bs), HO.row (3 : Nat) (1 : Nat) (usN op a b) (mapv (usL op a b))])]
  := by kernel_rfl

theorem ro1 (ad : Addr) (n cap N M i : Nat) (r : Int) (bs : List Value) (op a b z0 z1 z2 z3 : Int) (kt : List It) : ((xgo Try.prog X (bodyOf Try.f43) 74 K17 [([0,1,1,0,0,1,0,0,1,0,1,1,1,1,1],3)] 90 [.t, .ld (.agg [.v (.int .i64 op), .v (.int .i64 a), .v (.int .i64 b), .v (.int .u64 z0), .v (.int .u64 z1), .v (.int .u64 z2), .v (.int .u64 z3)]), .t, .lo 1 (.v (.bool true)), .t, .lo 2 (.v (.int .i64 a)), .f, .f] ((.nil)) (.at [0,0,1,0,1,1,1,1,1] :: .rnd [0,0,1,0,1,1,1,1,1] (M + 1) :: kt) ⟨[(7, .v (.int .i64 (i : Int))), (6, .o 1), (5, .o 0), (4, .v (.slice none 0 0)), (1, .v (.int .i64 r)), (0, .v (.slice (some ad) n cap))], [.row 3 1 0 [], .row 4 1 N (mapv bs)]⟩ [] []).map (trims [7, 6, 5, 4, 1, 0])) =
  some [Leaf2.mk [] [fun _ => decide ((0 : Int) ≤ (↑i : Int)) = true,
    fun _ => (0 : Int) ≤ (↑i : Int) ∧ (↑i : Int) < (↑n : Int),
    fun _ => true = true, fun M => MCells (fun a => M a) (some (if Int.toNat (↑i : Int) * (7 : Nat) = (0 : Nat) then ad else Addr.mk ad.1 (ad.2 + Int.toNat (↑i : Int) * (7 : Nat)) none)) [Value.int IntKind.i64 op, Value.int IntKind.i64 a, Value.int IntKind.i64 b, Value.int IntKind.u64 z0, Value.int IntKind.u64 z1, Value.int IntKind.u64 z2, Value.int IntKind.u64 z3],
    fun _ => True,
    fun _ => decide ((0 : Int) < (↑(usN op a b) : Int)) = true,
    fun _ => (0 : Int) ≤ (↑i : Int) ∧ (↑i : Int) < (↑N : Int),
    fun _ => (0 : Nat) < List.length (mapv bs),
    fun _ => (mapv bs)[Int.toNat (↑i : Int) * (1 : Nat)]? = some (SV.v (Value.bool true)),
    fun _ => true = true,
    fun _ => (0 : Int) ≤ (0 : Int) ∧ (0 : Int) < (↑(usN op a b) : Int),
    fun _ => (0 : Nat) < List.length (mapv (usL op a b)),
    fun _ => (mapv (usL op a b))[(0 : Nat)]? = some (SV.v (Value.int IntKind.i64 a)),
    fun _ => (0 : Int) ≤ a ∧ a < (↑N : Int),
    fun _ => (0 : Nat) < List.length (mapv bs) ∧ Int.toNat a * (1 : Nat) + (1 : Nat) ≤ List.length (mapv bs),
    fun _ => decide ((1 : Int) < (↑(usN op a b) : Int)) = false,
    fun _ => false = false] (It.rnd [(0 : Nat), (0 : Nat), (1 : Nat), (0 : Nat), (1 : Nat), (1 : Nat), (1 : Nat), (1 : Nat), (1 : Nat)] (M + (1 : Nat)) :: kt) (St.mk [((7 : Nat), SV.v (Value.int IntKind.i64 (IntKind.wrap IntKind.i64 ((↑i : Int) - (1 : Int))))), ((6 : Nat), SV.o (1 : Nat)), ((5 : Nat), SV.o (0 : Nat)), ((4 : Nat), SV.v (Value.slice none (0 : Nat) (0 : Nat))), ((1 : Nat), SV.v (Value.int IntKind.i64 r)), ((0 : Nat), SV.v (Value.slice (some ad) n cap))] [HO.row (3 : Nat) (1 : Nat) (0 : Nat) [], HO.row (4 : Nat) (1 : Nat) N (List.take (Int.toNat a * (1 : Nat)) (mapv bs) ++ [SV.v (Value.bool true)] ++ List.drop (Int.toNat a * (1 : Nat) + (1 : Nat)) (mapv bs)), HO.row (3 : Nat) (1 : Nat) (usN op a b) (mapv (usL op a b))])]
  := by kernel_rfl

theorem ro2 (ad : Addr) (n cap N M i : Nat) (r : Int) (bs : List Value) (op a b z0 z1 z2 z3 : Int) (kt : List It) : ((xgo Try.prog X (bodyOf Try.f43) 74 K17 [([0,1,1,0,0,1,0,0,1,0,1,1,1,1,1],3)] 90 [.t, .ld (.agg [.v (.int .i64 op), .v (.int .i64 a), .v (.int .i64 b), .v (.int .u64 z0), .v (.int .u64 z1), .v (.int .u64 z2), .v (.int .u64 z3)]), .t, .lo 1 (.v (.bool true)), .t, .lo 2 (.v (.int .i64 a)), .t, .lo 1 (.v (.bool true)), .t, .lo 2 (.v (.int .i64 b)), .f, .f] ((.nil)) (.at [0,0,1,0,1,1,1,1,1] :: .rnd [0,0,1,0,1,1,1,1,1] (M + 1) :: kt) ⟨[(7, .v (.int .i64 (i : Int))), (6, .o 1), (5, .o 0), (4, .v (.slice none 0 0)), (1, .v (.int .i64 r)), (0, .v (.slice (some ad) n cap))], [.row 3 1 0 [], .row 4 1 N (mapv bs)]⟩ [] []).map (trims [7, 6, 5, 4, 1, 0])) =
  some [Leaf2.mk [] [fun _ => decide ((0 : Int) ≤ (↑i : Int)) = true,
    fun _ => (0 : Int) ≤ (↑i : Int) ∧ (↑i : Int) < (↑n : Int),
    fun _ => true = true, fun M => MCells (fun a => M a) (some (if Int.toNat (↑i : Int) * (7 : Nat) = (0 : Nat) then ad else Addr.mk ad.1 (ad.2 + Int.toNat (↑i : Int) * (7 : Nat)) none)) [Value.int IntKind.i64 op, Value.int IntKind.i64 a, Value.int IntKind.i64 b, Value.int IntKind.u64 z0, Value.int IntKind.u64 z1, Value.int IntKind.u64 z2, Value.int IntKind.u64 z3],
    fun _ => True,
    fun _ => decide ((0 : Int) < (↑(usN op a b) : Int)) = true,
    fun _ => (0 : Int) ≤ (↑i : Int) ∧ (↑i : Int) < (↑N : Int),
    fun _ => (0 : Nat) < List.length (mapv bs),
    fun _ => (mapv bs)[Int.toNat (↑i : Int) * (1 : Nat)]? = some (SV.v (Value.bool true)),
    fun _ => true = true,
    fun _ => (0 : Int) ≤ (0 : Int) ∧ (0 : Int) < (↑(usN op a b) : Int),
    fun _ => (0 : Nat) < List.length (mapv (usL op a b)),
    fun _ => (mapv (usL op a b))[(0 : Nat)]? = some (SV.v (Value.int IntKind.i64 a)),
    fun _ => (0 : Int) ≤ a ∧ a < (↑N : Int),
    fun _ => (0 : Nat) < List.length (mapv bs) ∧ Int.toNat a * (1 : Nat) + (1 : Nat) ≤ List.length (mapv bs),
    fun _ => decide ((1 : Int) < (↑(usN op a b) : Int)) = true,
    fun _ => (0 : Int) ≤ (↑i : Int) ∧ (↑i : Int) < (↑N : Int),
    fun _ => (0 : Nat) < List.length (List.take (Int.toNat a * (1 : Nat)) (mapv bs) ++ [SV.v (Value.bool true)] ++ List.drop (Int.toNat a * (1 : Nat) + (1 : Nat)) (mapv bs)),
    fun _ => (List.take (Int.toNat a * (1 : Nat)) (mapv bs) ++ [SV.v (Value.bool true)] ++ List.drop (Int.toNat a * (1 : Nat) + (1 : Nat)) (mapv bs))[Int.toNat (↑i : Int) * (1 : Nat)]? = some (SV.v (Value.bool true)),
    fun _ => true = true,
    fun _ => (0 : Int) ≤ (1 : Int) ∧ (1 : Int) < (↑(usN op a b) : Int),
    fun _ => (0 : Nat) < List.length (mapv (usL op a b)),
    fun _ => (mapv (usL op a b))[(1 : Nat)]? = some (SV.v (Value.int IntKind.i64 b)),
    fun _ => (0 : Int) ≤ b ∧ b < (↑N : Int),
    fun _ => (0 : Nat) < List.length (List.take (Int.toNat a * (1 : Nat)) (mapv bs) ++ [SV.v (Value.bool true)] ++ List.drop (Int.toNat a * (1 : Nat) + (1 : Nat)) (mapv bs)) ∧ Int.toNat b * (1 : Nat) + (1 : Nat) ≤ List.length (List.take (Int.toNat a * (1 : Nat)) (mapv bs) ++ [SV.v (Value.bool true)] ++ List.drop (Int.toNat a * (1 : Nat) + (1 : Nat)) (mapv bs)),
    fun _ => decide ((2 : Int) < (↑(usN op a b) : Int)) = false,
    fun _ => false = false] (It.rnd [(0 : Nat), (0 : Nat), (1 : Nat), (0 : Nat), (1 : Nat), (1 : Nat), (1 : Nat), (1 : Nat), (1 : Nat)] (M + (1 : Nat)) :: kt) (St.mk [((7 : Nat), SV.v (Value.int IntKind.i64 (IntKind.wrap IntKind.i64 ((↑i : Int) - (1 : Int))))), ((6 : Nat), SV.o (1 : Nat)), ((5 : Nat), SV.o (0 : Nat)), ((4 : Nat), SV.v (Value.slice none (0 : Nat) (0 : Nat))), ((1 : Nat), SV.v (Value.int IntKind.i64 r)), ((0 : Nat), SV.v (Value.slice (some ad) n cap))] [HO.row (3 : Nat) (1 : Nat) (0 : Nat) [], HO.row (4 : Nat) (1 : Nat) N (List.take (Int.toNat b * (1 : Nat)) (List.take (Int.toNat a * (1 : Nat)) (mapv bs) ++ [SV.v (Value.bool true)] ++ List.drop (Int.toNat a * (1 : Nat) + (1 : Nat)) (mapv bs)) ++ [SV.v (Value.bool true)] ++ List.drop (Int.toNat b * (1 : Nat) + (1 : Nat)) (List.take (Int.toNat a * (1 : Nat)) (mapv bs) ++ [SV.v (Value.bool true)] ++ List.drop (Int.toNat a * (1 : Nat) + (1 : Nat)) (mapv bs))), HO.row (3 : Nat) (1 : Nat) (usN op a b) (mapv (usL op a b))])]
  := by kernel_rfl

theorem roE (oa : Option Addr) (n cap N M : Nat) (r : Int) (bs : List Value) : ((xgo Try.prog X (bodyOf Try.f43) 74 K17 [([0,1,1,0,0,1,0,0,1,0,1,1,1,1,1],3)] 60 [.f] ((.nil)) [.at [0,0,1,0,1,1,1,1,1], .rnd [0,0,1,0,1,1,1,1,1] (M + 1), .blk 0, .at [1,1,1,1,1,1]] ⟨[(7, .v (.int .i64 (-1))), (6, .o 1), (5, .o 0), (4, .v (.slice none 0 0)), (1, .v (.int .i64 r)), (0, .v (.slice oa n cap))], [.row 3 1 0 [], .row 4 1 N (mapv bs)]⟩ [] []).map (trims [10, 6, 5, 4, 1])) =
  some [Leaf2.mk [] [fun _ => false = false] [It.at [(0 : Nat), (1 : Nat), (0 : Nat), (1 : Nat), (1 : Nat), (1 : Nat), (1 : Nat), (1 : Nat), (1 : Nat)], It.blk (4 : Nat), It.at [(1 : Nat), (1 : Nat), (1 : Nat), (1 : Nat), (1 : Nat), (1 : Nat), (1 : Nat)]] (St.mk [((10 : Nat), SV.v (Value.int IntKind.i64 (0 : Int))), ((6 : Nat), SV.o (1 : Nat)), ((5 : Nat), SV.o (0 : Nat)), ((4 : Nat), SV.v (Value.slice none (0 : Nat) (0 : Nat))), ((1 : Nat), SV.v (Value.int IntKind.i64 r))] [HO.row (3 : Nat) (1 : Nat) (0 : Nat) [], HO.row (4 : Nat) (1 : Nat) N (mapv bs)])]
  := by kernel_rfl

theorem rpt (N M m i : Nat) (r : Int) (bs ds : List Value) (kt : List It) : ((xgo Try.prog X (bodyOf Try.f43) 74 K17 [([0,1,1,0,0,1,0,0,1,0,1,1,1,1,1],3)] 60 [.t, .lo 1 (.v (.bool true)), .t] ((.nil)) (.at [0,0,1,0,1,1,1,1,1,1] :: .rnd [0,0,1,0,1,1,1,1,1,1] (M + 1) :: kt) ⟨[(10, .v (.int .i64 (i : Int))), (6, .o 1), (5, .o 0), (4, .v (.slice none 0 0)), (1, .v (.int .i64 r))], [.row 3 1 m (mapv ds), .row 4 1 N (mapv bs)]⟩ [] []).map (trims [10, 6, 5, 4, 1])) =
  some [Leaf2.mk [] [fun _ => decide ((↑i : Int) ≤ r) = true,
    fun _ => (0 : Int) ≤ (↑i : Int) ∧ (↑i : Int) < (↑N : Int),
    fun _ => (0 : Nat) < List.length (mapv bs),
    fun _ => (mapv bs)[Int.toNat (↑i : Int) * (1 : Nat)]? = some (SV.v (Value.bool true)),
    fun _ => true = true,
    fun _ => (m + (1 : Nat)) * (8 : Nat) ≤ (140737488355328 : Nat) ∧ m + (1 : Nat) ≤ (140737488355328 : Nat)] (It.rnd [(0 : Nat), (0 : Nat), (1 : Nat), (0 : Nat), (1 : Nat), (1 : Nat), (1 : Nat), (1 : Nat), (1 : Nat), (1 : Nat)] (M + (1 : Nat)) :: kt) (St.mk [((10 : Nat), SV.v (Value.int IntKind.i64 (IntKind.wrap IntKind.i64 ((↑i : Int) + (1 : Int))))), ((6 : Nat), SV.o (1 : Nat)), ((5 : Nat), SV.o (3 : Nat)), ((4 : Nat), SV.v (Value.slice none (0 : Nat) (0 : Nat))), ((1 : Nat), SV.v (Value.int IntKind.i64 r))] [HO.gone, HO.row (4 : Nat) (1 : Nat) N (mapv bs), HO.row (3 : Nat) (1 : Nat) (1 : Nat) [SV.v (Value.int IntKind.i64 (↑i : Int))], HO.row (3 : Nat) (1 : Nat) (m + (1 : Nat)) (mapv ds ++ [SV.v (Value.int IntKind.i64 (↑i : Int))])])]
  := by kernel_rfl

theorem rpf (N M m i : Nat) (r : Int) (bs ds : List Value) (kt : List It) : ((xgo Try.prog X (bodyOf Try.f43) 74 K17 [([0,1,1,0,0,1,0,0,1,0,1,1,1,1,1],3)] 60 [.t, .lo 1 (.v (.bool false)), .f] ((.nil)) (.at [0,0,1,0,1,1,1,1,1,1] :: .rnd [0,0,1,0,1,1,1,1,1,1] (M + 1) :: kt) ⟨[(10, .v (.int .i64 (i : Int))), (6, .o 1), (5, .o 0), (4, .v (.slice none 0 0)), (1, .v (.int .i64 r))], [.row 3 1 m (mapv ds), .row 4 1 N (mapv bs)]⟩ [] []).map (trims [10, 6, 5, 4, 1])) =
  some [Leaf2.mk [] [fun _ => decide ((↑i : Int) ≤ r) = true,
    fun _ => (0 : Int) ≤ (↑i : Int) ∧ (↑i : Int) < (↑N : Int),
    fun _ => (0 : Nat) < List.length (mapv bs),
    fun _ => (mapv bs)[Int.toNat (↑i : Int) * (1 : Nat)]? = some (SV.v (Value.bool false)),
    fun _ => false = false] (It.rnd [(0 : Nat), (0 : Nat), (1 : Nat), (0 : Nat), (1 : Nat), (1 : Nat), (1 : Nat), (1 : Nat), (1 : Nat), (1 : Nat)] (M + (1 : Nat)) :: kt) (St.mk [((10 : Nat), SV.v (Value.int IntKind.i64 (IntKind.wrap IntKind.i64 ((↑i : Int) + (1 : Int))))), ((6 : Nat), SV.o (1 : Nat)), ((5 : Nat), SV.o (0 : Nat)), ((4 : Nat), SV.v (Value.slice none (0 : Nat) (0 : Nat))), ((1 : Nat), SV.v (Value.int IntKind.i64 r))] [HO.row (3 : Nat) (1 : Nat) m (mapv ds), HO.row (4 : Nat) (1 : Nat) N (mapv bs)])]
  := by kernel_rfl

theorem rpE (N M m i : Nat) (r : Int) (bs ds : List Value) : (((xgo Try.prog X (bodyOf Try.f43) 74 K17 [([0,1,1,0,0,1,0,0,1,0,1,1,1,1,1],3)] 60 [.f] ((.nil)) [.at [0,0,1,0,1,1,1,1,1,1], .rnd [0,0,1,0,1,1,1,1,1,1] (M + 1), .blk 4, .at [1,1,1,1,1,1,1]] ⟨[(10, .v (.int .i64 (i : Int))), (6, .o 1), (5, .o 0), (4, .v (.slice none 0 0)), (1, .v (.int .i64 r))], [.row 3 1 m (mapv ds), .row 4 1 N (mapv bs)]⟩ [] []).bind (ends Try.prog Try.f43.results.toList)).bind plainE) =
  some [EndP.mk [] [fun _ => decide ((↑i : Int) ≤ r) = false,
    fun _ => mapv ds = mapv (unv (mapv ds))] (Res.r (3 : Nat) (1 : Nat) m (unv (mapv ds)))]
  := by kernel_rfl

theorem roS (oa : Option Addr) (n cap : Nat) (r : Int) (l : List Nd) : ((xgo Try.prog X (bodyOf Try.f43) 74 K17 [([0,1,1,0,0,1,0,0,1,0,1,1,1,1,1],3)] 60 [.lx (nodesC l), .f, .f, .f] ((.nil)) [.at []] ⟨argsTm 0 [.slice oa n cap, .int .i64 r], []⟩ [] []).map (trims [7, 6, 5, 4, 1, 0])) =
  some [Leaf2.mk [] [fun M => nodesC l = [] ∨ MCells (fun a => M a) oa (nodesC l),
    fun _ => nodesC l = nodesC (unNds (nodesC l)) ∧ List.length (unNds (nodesC l)) = n ∧ n ≤ (4398046511104 : Nat),
    fun _ => (!stB (nodesC l)) = false,
    fun _ => decide (r < (0 : Int)) = false,
    fun _ => decide ((↑n : Int) ≤ r) = false,
    fun _ => (0 : Int) ≤ (↑n : Int) ∧ (↑n : Int) ≤ (↑n : Int) ∧ (1 : Int) * (↑n : Int) ≤ (281474976710656 : Int) ∧ (↑n : Int) ≤ (9223372036854775807 : Int),
    fun _ => true = true ∧ (0 : Nat) < (1 : Nat),
    fun _ => (0 : Int) ≤ r ∧ r < (↑(Int.toNat (↑n : Int)) : Int),
    fun _ => (0 : Nat) < List.length (List.map (fun j => SV.v (List.get!Internal [Value.bool false] (j % (1 : Nat)))) (List.range.loop (Int.toNat (↑n : Int) * (1 : Nat)) [])) ∧ Int.toNat r * (1 : Nat) + (1 : Nat) ≤ List.length (List.map (fun j => SV.v (List.get!Internal [Value.bool false] (j % (1 : Nat)))) (List.range.loop (Int.toNat (↑n : Int) * (1 : Nat)) []))] [It.at [(0 : Nat), (1 : Nat), (0 : Nat), (1 : Nat), (1 : Nat), (1 : Nat), (1 : Nat), (1 : Nat)], It.blk (0 : Nat), It.at [(1 : Nat), (1 : Nat), (1 : Nat), (1 : Nat), (1 : Nat), (1 : Nat)]] (St.mk [((7 : Nat), SV.v (Value.int IntKind.i64 r)), ((6 : Nat), SV.o (1 : Nat)), ((5 : Nat), SV.o (0 : Nat)), ((4 : Nat), SV.v (Value.slice none (0 : Nat) (0 : Nat))), ((1 : Nat), SV.v (Value.int IntKind.i64 r)), ((0 : Nat), SV.v (Value.slice oa n cap))] [HO.row (3 : Nat) (1 : Nat) (0 : Nat) [], HO.row (4 : Nat) (1 : Nat) (Int.toNat (↑n : Int)) (List.take (Int.toNat r * (1 : Nat)) (List.map (fun j => SV.v (List.get!Internal [Value.bool false] (j % (1 : Nat)))) (List.range.loop (Int.toNat (↑n : Int) * (1 : Nat)) [])) ++ [SV.v (Value.bool true)] ++ List.drop (Int.toNat r * (1 : Nat) + (1 : Nat)) (List.map (fun j => SV.v (List.get!Internal [Value.bool false] (j % (1 : Nat)))) (List.range.loop (Int.toNat (↑n : Int) * (1 : Nat)) [])))])]
  := by kernel_rfl

theorem roX (oa : Option Addr) (n cap : Nat) (r : Int) (l : List Nd) : (((xgo Try.prog X (bodyOf Try.f43) 74 K17 [] 60 [.lx (nodesC l), .t, .t, .t] ((.nil)) [.at []] ⟨argsTm 0 [.slice oa n cap, .int .i64 r], []⟩ [] []).bind (ends Try.prog Try.f43.results.toList)).bind plainE) =
  some [EndP.mk [] [fun M => nodesC l = [] ∨ MCells (fun a => M a) oa (nodesC l),
    fun _ => nodesC l = nodesC (unNds (nodesC l)) ∧ List.length (unNds (nodesC l)) = n ∧ n ≤ (4398046511104 : Nat),
    fun _ => (!stB (nodesC l)) = true,
    fun _ => true = true,
    fun _ => true = true,
    fun _ => ([] : List SV) = []] (Res.r (3 : Nat) (1 : Nat) (0 : Nat) [])]
  := by kernel_rfl

theorem roY (oa : Option Addr) (n cap : Nat) (r : Int) (l : List Nd) : (((xgo Try.prog X (bodyOf Try.f43) 74 K17 [] 60 [.lx (nodesC l), .f, .t, .t] ((.nil)) [.at []] ⟨argsTm 0 [.slice oa n cap, .int .i64 r], []⟩ [] []).bind (ends Try.prog Try.f43.results.toList)).bind plainE) =
  some [EndP.mk [] [fun M => nodesC l = [] ∨ MCells (fun a => M a) oa (nodesC l),
    fun _ => nodesC l = nodesC (unNds (nodesC l)) ∧ List.length (unNds (nodesC l)) = n ∧ n ≤ (4398046511104 : Nat),
    fun _ => (!stB (nodesC l)) = false,
    fun _ => decide (r < (0 : Int)) = true,
    fun _ => true = true,
    fun _ => ([] : List SV) = []] (Res.r (3 : Nat) (1 : Nat) (0 : Nat) [])]
  := by kernel_rfl

theorem roZ (oa : Option Addr) (n cap : Nat) (r : Int) (l : List Nd) : (((xgo Try.prog X (bodyOf Try.f43) 74 K17 [] 60 [.lx (nodesC l), .f, .f, .t] ((.nil)) [.at []] ⟨argsTm 0 [.slice oa n cap, .int .i64 r], []⟩ [] []).bind (ends Try.prog Try.f43.results.toList)).bind plainE) =
  some [EndP.mk [] [fun M => nodesC l = [] ∨ MCells (fun a => M a) oa (nodesC l),
    fun _ => nodesC l = nodesC (unNds (nodesC l)) ∧ List.length (unNds (nodesC l)) = n ∧ n ≤ (4398046511104 : Nat),
    fun _ => (!stB (nodesC l)) = false,
    fun _ => decide (r < (0 : Int)) = false,
    fun _ => decide ((↑n : Int) ≤ r) = true,
    fun _ => ([] : List SV) = []] (Res.r (3 : Nat) (1 : Nat) (0 : Nat) [])]
  := by kernel_rfl

noncomputable def stR2 (N : Nat) (r i : Int) (bs : List Value) (ds : List Value) (m : Nat) : St := ⟨[(10, .v (.int .i64 i)), (6, .o 1), (5, .o 0), (4, .v (.slice none 0 0)), (1, .v (.int .i64 r))], [.row 3 1 m (mapv ds), .row 4 1 N (mapv bs)]⟩
theorem r2_weak {w : World} {fin : Exit → Act → World → Prop} (N : Nat) (r i : Int) (bs ds : List Value) (m a : Nat) (xs : List SV) (hx : xs = mapv ds) (hj : nodupB [a, 1] = true) (kt : List It) (tm : List (Nat × SV)) (hp : List HO) (h1 : RenT [a, 1] tm (stR2 N r i bs ds m).tm) (h2 : hp[a]? = some (.row 3 1 m xs)) (h3 : hp[1]? = some (.row 4 1 N (mapv bs)))
    (next : Ok Try.prog (bodyOf Try.f43) 74 (F0 w) w fin kt (stR2 N r i bs ds m)) : Ok Try.prog (bodyOf Try.f43) 74 (F0 w) w fin kt ⟨tm, hp⟩ :=
  Ok.weaken (st' := stR2 N r i bs ds m) (F0.mono w) [a, 1] h1 ⟨by rw [h2, hx]; exact ren_row _ _ _ _ _, by rw [h3]; exact ren_row _ _ _ _ _, trivial⟩ hj ⟨by simp [stR2, wsAllT, ws], by simp only [stR2, wsAllH, HO.ws, and_true]; exact ⟨wsL_mapv _ _, wsL_mapv _ _⟩⟩ next
theorem r2_loop {w : World} (N r : Nat) (hr : r < N) (hb : N ≤ 4398046511104) (bw : List Bool) (hl : bw.length = N) (R : Res → Prop) :
    ∀ (d i : Nat) (out : List Int), i + d = r + 1 → out.length ≤ i → R (.r 3 1 (colR bw d i out).length (intsC (colR bw d i out))) →
    Ok Try.prog (bodyOf Try.f43) 74 (F0 w) w (bodyPost Try.prog Try.f43 fun E w' => ∃ v r, E = .returned v ∧ R r ∧ r.ok w w' v ∧ Below w.heap.size w w') (.rnd [0,0,1,0,1,1,1,1,1,1] (d + 2) :: [.blk 4, .at [1,1,1,1,1,1,1]]) (stR2 N (r : Int) (i : Int) (boolsC bw) (intsC out) out.length)
  | 0, i, out, hi, hol, hR => by
    refine Ok.rnd (ok_plain hm (F0.mono w) (fun _ h => h) 60 _ _ _ _ (rpE N 0 out.length i (r : Int) (boolsC bw) (intsC out)) ⟨fun _ => ⟨?_, ?_⟩, trivial⟩)
    · simp only [hold_cons, hold_nil, and_true, unv_mapv']
      exact ⟨fun _ _ => decide_eq_false (by omega), fun _ _ => trivial⟩
    · rw [unv_mapv']
      exact hR
  | d + 1, i, out, hi, hol, hR => by
    have s3 : 0 < (mapv (boolsC bw)).length := by rw [mapv_length, boolsC_length]; omega
    have hg := bool_get bw i (by omega)
    rw [colR] at hR
    cases hbv : bw.getD i false with
    | true =>
      rw [hbv, if_pos rfl] at hR
      rw [hbv] at hg
      have next := r2_loop (w := w) N r hr hb bw hl R d (i + 1) (out ++ [(i : Int)]) (by omega) (by simp; omega) hR
      rw [List.length_append, List.length_singleton, intsC_snoc] at next
      refine Ok.rnd (xgo_trim hm (F0.mono w) finB 60 _ _ _ _ _ _ (rpt N (d + 1) out.length i (r : Int) (boolsC bw) (intsC out) _) (paidCons (fun _ => ⟨?_, ?_⟩) paidNil))
      · sides
      · simp only [wrap_inc i (by omega)]
        exact r2_weak _ _ _ _ _ _ 3 _ (by rw [mapv_append]; rfl) rfl _ _ _ ⟨rfl, rfl, rfl, rfl, rfl, trivial⟩ rfl rfl next
    | false =>
      rw [hbv, if_neg (by simp)] at hR
      rw [hbv] at hg
      have next := r2_loop (w := w) N r hr hb bw hl R d (i + 1) out (by omega) (by omega) hR
      refine Ok.rnd (xgo_trim hm (F0.mono w) finB 60 _ _ _ _ _ _ (rpf N (d + 1) out.length i (r : Int) (boolsC bw) (intsC out) _) (paidCons (fun _ => ⟨?_, ?_⟩) paidNil))
      · sides
      · simp only [wrap_inc i (by omega)]
        exact r2_weak _ _ _ _ _ _ 0 _ rfl rfl _ _ _ ⟨rfl, rfl, rfl, rfl, rfl, trivial⟩ rfl rfl next
noncomputable def stR1 (oa : Option Addr) (n cap : Nat) (r i : Int) (bs : List Value) : St := ⟨[(7, .v (.int .i64 i)), (6, .o 1), (5, .o 0), (4, .v (.slice none 0 0)), (1, .v (.int .i64 r)), (0, .v (.slice oa n cap))], [.row 3 1 0 [], .row 4 1 n (mapv bs)]⟩
theorem ro_weak {w : World} {fin : Exit → Act → World → Prop} (oa : Option Addr) (n cap : Nat) (r i : Int) (bs : List Value) (a b : Nat) (hj : nodupB [a, b] = true) (kt : List It) (tm : List (Nat × SV)) (hp : List HO) (h1 : RenT [a, b] tm (stR1 oa n cap r i bs).tm) (h2 : hp[a]? = some (.row 3 1 0 [])) (h3 : hp[b]? = some (.row 4 1 n (mapv bs)))
    (next : Ok Try.prog (bodyOf Try.f43) 74 (F0 w) w fin kt (stR1 oa n cap r i bs)) : Ok Try.prog (bodyOf Try.f43) 74 (F0 w) w fin kt ⟨tm, hp⟩ :=
  Ok.weaken (st' := stR1 oa n cap r i bs) (F0.mono w) [a, b] h1 ⟨by rw [h2]; exact ren_row _ _ _ 0 [], by rw [h3]; exact ren_row _ _ _ _ _, trivial⟩ hj ⟨by simp [stR1, wsAllT, ws], by simp only [stR1, wsAllH, HO.ws, and_true]; exact ⟨trivial, wsL_mapv _ _⟩⟩ next
theorem ro_loop {w : World} (oa : Option Addr) (n cap : Nat) (all : List Nd) (hn : all.length = n) (hb : n ≤ 4398046511104) (ha : nodesC all = [] ∨ MCells (wmem w) oa (nodesC all)) (ho : ordN 0 all = true) (r : Nat) (hr : r < n) (R : Res → Prop) :
    ∀ (k : Nat) (bw : List Bool), k ≤ n → bw.length = n → R (.r 3 1 (colR (marksN all k bw) (r + 1) 0 []).length (intsC (colR (marksN all k bw) (r + 1) 0 []))) →
    Ok Try.prog (bodyOf Try.f43) 74 (F0 w) w (bodyPost Try.prog Try.f43 fun E w' => ∃ v r, E = .returned v ∧ R r ∧ r.ok w w' v ∧ Below w.heap.size w w') (.rnd [0,0,1,0,1,1,1,1,1] (k + 2) :: [.blk 0, .at [1,1,1,1,1,1]]) (stR1 oa n cap (r : Int) ((k : Int) - 1) (boolsC bw))
  | 0, bw, hk, hbl, hR => by
    refine Ok.rnd (xgo_trim hm (F0.mono w) finB 60 _ _ _ _ _ _ (roE oa n cap n 0 (r : Int) (boolsC bw)) (paidCons (fun _ => ⟨?_, ?_⟩) paidNil))
    · simp only [hold_cons, hold_nil, and_true]
      exact fun _ _ => trivial
    · exact ok_mono (st := stR2 n (r : Int) ((0 : Nat) : Int) (boolsC bw) (intsC []) 0) rfl (Ok.loop (r + 1 + 2) (by kernel_rfl) (r2_loop n r hr hb bw hbl R (r + 1) 0 [] (by omega) (by simp) hR))
  | k + 1, bw, hk, hbl, hR => by
    have hkl : k < all.length := by omega
    obtain ⟨x, hx'⟩ : ∃ x, all[k]? = some x := ⟨all[k], List.getElem?_eq_getElem hkl⟩
    have he : all = all.take k ++ x :: all.drop (k + 1) := by
      have h1 : all.drop k = x :: all.drop (k + 1) := by rw [List.drop_eq_getElem_cons hkl, (List.getElem?_eq_some_iff.1 hx').2]
      rw [← h1, List.take_append_drop]
    have hne : MCells (wmem w) oa (nodesC all) := by
      rcases ha with h | h
      · rw [he, nodesC_append, nodesC_cons] at h; simp [ndC] at h
      · exact h
    obtain ⟨ad, rfl, hcells⟩ := hne
    have hx : MCells (wmem w) (some (ad.add (k * 7))) (ndC x) := by
      have := nodes_at (all.take k) (all.drop (k + 1)) x (by rw [← he]; exact ⟨ad, rfl, hcells⟩)
      rwa [List.length_take, Nat.min_eq_left (by omega)] at this
    have hus := okN_uses (ordN_get ho k x hx')
    rw [marksN] at hR
    have next := ro_loop (w := w) (some ad) n cap all hn hb ha ho r hr R k (markN all k bw) (by omega) (by rw [markN_len]; exact hbl) hR
    rw [show (((k + 1 : Nat) : Int) - 1) = (k : Int) by omega]
    have s3 : 0 < (mapv (boolsC bw)).length := by rw [mapv_length, boolsC_length]; omega
    have hbl2 : (mapv (boolsC bw)).length = n := by rw [mapv_length, boolsC_length, hbl]
    have hg := bool_get bw k (by omega)
    by_cases hk0 : ¬ (5 ≤ x.op ∧ x.op ≤ 8)
    · have hu := us_x (op := x.op) x.a x.b hk0
      have hN : usN x.op x.a x.b = 0 := by rw [usN, hide_eq, hu]; rfl
      have hmk : markN all k bw = bw := by
        cases hbv : bw.getD k false with
        | false => exact markN_no all k bw hbv
        | true => rw [markN_def all k bw x hx' hbv, usesN_eq, hu]; rfl
      rw [hmk] at next
      refine Ok.rnd (xgo_trim hm (F0.mono w) finB 90 _ _ _ _ _ _ (ro0 ad n cap n (k + 1) k (r : Int) (boolsC bw) x.op x.a x.b (limb x.v 0 : Nat) (limb x.v 1 : Nat) (limb x.v 2 : Nat) (limb x.v 3 : Nat) _) (paidCons (fun _ => ⟨?_, ?_⟩) paidNil))
      · sides
      · simp only [wrap_dec k (by omega)]
        exact ro_weak _ _ _ _ _ _ 0 1 rfl _ _ _ ⟨rfl, rfl, rfl, rfl, rfl, rfl, trivial⟩ rfl rfl next
    cases hbv : bw.getD k false with
    | false =>
      rw [markN_no all k bw hbv] at next
      rw [hbv] at hg
      have hN : 0 < usN x.op x.a x.b := by
        rw [usN, hide_eq]
        by_cases h : x.op = 5 ∨ x.op = 8
        · rw [us_n _ _ h]; simp
        · rw [us_a _ _ (by omega)]; simp
      refine Ok.rnd (xgo_trim hm (F0.mono w) finB 90 _ _ _ _ _ _ (rou ad n cap n (k + 1) k (r : Int) (boolsC bw) x.op x.a x.b (limb x.v 0 : Nat) (limb x.v 1 : Nat) (limb x.v 2 : Nat) (limb x.v 3 : Nat) _) (paidCons (fun _ => ⟨?_, ?_⟩) paidNil))
      · sides
      · simp only [wrap_dec k (by omega)]
        exact ro_weak _ _ _ _ _ _ 0 1 rfl _ _ _ ⟨rfl, rfl, rfl, rfl, rfl, rfl, trivial⟩ rfl rfl next
    | true =>
      rw [hbv] at hg
      have hmk := markN_def all k bw x hx' hbv
      rw [usesN_eq] at hmk hus
      by_cases hk1 : x.op = 5 ∨ x.op = 8
      · have hu := us_n x.a x.b hk1
        have hN : usN x.op x.a x.b = 1 := by rw [usN, hide_eq, hu]; rfl
        have hL : (mapv (usL x.op x.a x.b)).length = 1 := by rw [mapv_length, usL, hu]; rfl
        have g0 : (mapv (usL x.op x.a x.b))[0]? = some (.v (.int .i64 x.a)) := by rw [usL, hu]; rfl
        rw [hu] at hmk hus
        have u1 := hus x.a (by simp)
        simp only [List.foldl_cons, List.foldl_nil] at hmk
        rw [hmk] at next
        have h3 := set3 (boolsC bw) (.bool true) x.a.toNat (by rw [boolsC_length]; omega)
        rw [← boolsC_set] at h3
        refine Ok.rnd (xgo_trim hm (F0.mono w) finB 90 _ _ _ _ _ _ (ro1 ad n cap n (k + 1) k (r : Int) (boolsC bw) x.op x.a x.b (limb x.v 0 : Nat) (limb x.v 1 : Nat) (limb x.v 2 : Nat) (limb x.v 3 : Nat) _) (paidCons (fun _ => ⟨?_, ?_⟩) paidNil))
        · sides
        · simp only [wrap_dec k (by omega)]
          simp only [h3]; exact ro_weak _ _ _ _ _ _ 0 1 rfl _ _ _ ⟨rfl, rfl, rfl, rfl, rfl, rfl, trivial⟩ rfl rfl next
      · have hu := us_a x.a x.b (op := x.op) (by omega)
        have hN : usN x.op x.a x.b = 2 := by rw [usN, hide_eq, hu]; rfl
        have hL : (mapv (usL x.op x.a x.b)).length = 2 := by rw [mapv_length, usL, hu]; rfl
        have g0 : (mapv (usL x.op x.a x.b))[0]? = some (.v (.int .i64 x.a)) := by rw [usL, hu]; rfl
        have g1 : (mapv (usL x.op x.a x.b))[1]? = some (.v (.int .i64 x.b)) := by rw [usL, hu]; rfl
        rw [hu] at hmk hus
        have u1 := hus x.a (by simp)
        have u2 := hus x.b (by simp)
        simp only [List.foldl_cons, List.foldl_nil] at hmk
        rw [hmk] at next
        have h3 := set3 (boolsC bw) (.bool true) x.a.toNat (by rw [boolsC_length]; omega)
        rw [← boolsC_set] at h3
        have h4 := set3 (boolsC (bw.set x.a.toNat true)) (.bool true) x.b.toNat (by rw [boolsC_length, List.length_set]; omega)
        rw [← boolsC_set] at h4
        have hl3 : (mapv (boolsC (bw.set x.a.toNat true))).length = n := by rw [mapv_length, boolsC_length, List.length_set, hbl]
        have hg2 := bool_get (bw.set x.a.toNat true) k (by rw [List.length_set]; omega)
        rw [getD_set bw k x.a.toNat hbv] at hg2
        refine Ok.rnd (xgo_trim hm (F0.mono w) finB 90 _ _ _ _ _ _ (ro2 ad n cap n (k + 1) k (r : Int) (boolsC bw) x.op x.a x.b (limb x.v 0 : Nat) (limb x.v 1 : Nat) (limb x.v 2 : Nat) (limb x.v 3 : Nat) _) (paidCons (fun _ => ⟨?_, ?_⟩) paidNil))
        · simp only [h3]; sides
        · simp only [wrap_dec k (by omega)]
          simp only [h3, h4]; exact ro_weak _ _ _ _ _ _ 0 1 rfl _ _ _ ⟨rfl, rfl, rfl, rfl, rfl, rfl, trivial⟩ rfl rfl next
theorem rcone_ok (oa : Option Addr) (n cap : Nat) (r : Int) (all : List Nd) (hw : ∀ x ∈ all, x.v < top) (hn : all.length = n) (hb : n ≤ 4398046511104) (w : World) (ha : nodesC all = [] ∨ MCells (wmem w) oa (nodesC all)) :
    Calls Try.prog 43 [.slice oa n cap, .int .i64 r].toArray w (fun E w' => ∃ v, E = .returned v ∧ Res.ok w w' (.r 3 1 (coneN all r).length (intsC (coneN all r))) v ∧ Below w.heap.size w w') := by
  have hun := unNds_nodesC all hw
  have hmem : ∀ M, F0 w M → nodesC all = [] ∨ MCells (fun a => M a) oa (nodesC all) := fun _ hM => ha.imp id fun h => h.mono hM
  have hst : stB (nodesC all) = ordN 0 all := by rw [stB, hidQ_eq, hun]
  have hside : nodesC all = nodesC (unNds (nodesC all)) ∧ (unNds (nodesC all)).length = n ∧ n ≤ 4398046511104 := by rw [hun]; exact ⟨rfl, hn, hb⟩
  cases ho : ordN 0 all with
  | false =>
    rw [coneN, if_neg (by rw [ho]; simp)]
    refine con_end (calls_plain hm Try.func43 (by kernel_rfl) rfl rfl 60 _ _ (roX oa n cap r all) ⟨fun _ => ⟨?_, rfl⟩, trivial⟩)
    simp only [hold_cons, hold_nil, and_true, hst, ho]
    exact ⟨hmem, fun _ _ => hside, fun _ _ => rfl, fun _ _ => trivial, fun _ _ => trivial, fun _ _ => trivial⟩
  | true =>
    by_cases h0 : r < 0
    · rw [coneN, if_neg (by omega)]
      refine con_end (calls_plain hm Try.func43 (by kernel_rfl) rfl rfl 60 _ _ (roY oa n cap r all) ⟨fun _ => ⟨?_, rfl⟩, trivial⟩)
      simp only [hold_cons, hold_nil, and_true, hst, ho]
      exact ⟨hmem, fun _ _ => hside, fun _ _ => rfl, fun _ _ => decide_eq_true h0, fun _ _ => trivial, fun _ _ => trivial⟩
    by_cases h1 : (n : Int) ≤ r
    · rw [coneN, if_neg (by omega)]
      refine con_end (calls_plain hm Try.func43 (by kernel_rfl) rfl rfl 60 _ _ (roZ oa n cap r all) ⟨fun _ => ⟨?_, rfl⟩, trivial⟩)
      simp only [hold_cons, hold_nil, and_true, hst, ho]
      exact ⟨hmem, fun _ _ => hside, fun _ _ => rfl, fun _ _ => decide_eq_false h0, fun _ _ => decide_eq_true h1, fun _ _ => trivial⟩
    obtain ⟨k, rfl⟩ := Int.eq_ofNat_of_zero_le (show 0 ≤ r by omega)
    have hz : List.map (fun j => SV.v (List.get!Internal [Value.bool false] (j % (1 : Nat)))) (List.range.loop (n * (1 : Nat)) []) = mapv (boolsC (List.replicate n false)) := by
      rw [Nat.mul_one, show List.range.loop n [] = List.range n from rfl]
      apply List.ext_getElem
      · simp [mapv, boolsC]
      · intro i h1 h2
        simp [mapv, boolsC, Nat.mod_one]
    rw [coneN_col ho k (by omega)]
    refine con_end (calls_of_ok (B := bodyOf Try.f43) (n := 74) Try.func43 (by kernel_rfl) rfl rfl (F := F0 w) (fun _ _ h => h) ?_)
    refine xgo_trim hm (F0.mono w) finB 60 _ _ _ _ _ _ (roS oa n cap (k : Int) all) (paidCons (fun _ => ⟨?_, ?_⟩) paidNil)
    · simp only [hold_cons, hold_nil, and_true, hst, ho, Int.toNat_natCast, hz]
      exact ⟨hmem, fun _ _ => hside, fun _ _ => rfl, fun _ _ => decide_eq_false h0, fun _ _ => decide_eq_false h1, fun _ _ => ⟨by omega, by omega, by omega, by omega⟩, fun _ _ => ⟨trivial, by omega⟩, fun _ _ => ⟨by omega, by omega⟩, fun _ _ => by rw [mapv_length, boolsC_length, List.length_replicate]; exact ⟨by omega, by omega⟩⟩
    · have first := ro_loop (w := w) oa n cap all hn hb ha ho k (by omega) (fun q => q = .r 3 1 (colR (marksN all (k + 1) ((List.replicate all.length false).set k true)) (k + 1) 0 []).length (intsC (colR (marksN all (k + 1) ((List.replicate all.length false).set k true)) (k + 1) 0 []))) (k + 1) ((List.replicate all.length false).set k true) (by omega) (by simp [hn]) rfl
      rw [show (((k + 1 : Nat) : Int) - 1) = (k : Int) by omega] at first
      simp only [Int.toNat_natCast]
      rw [hz, set3 _ _ _ (by rw [boolsC_length, List.length_replicate]; omega), ← boolsC_set]
      refine Ok.loop (k + 3) (by kernel_rfl) (ok_mono (st := stR1 oa n cap (k : Int) (k : Int) (boolsC ((List.replicate all.length false).set k true))) ?_ first)
      rw [stR1, hn]
noncomputable def gRCone : List RV → Option (Res × Prop)
  | [.r n cs, .v (.int .i64 r)] => some (.r 3 1 (cnN cs r) (cnL cs r), cs = nodesC (unNds cs) ∧ (unNds cs).length = n ∧ n ≤ 4398046511104 ∧ ∀ x ∈ unNds cs, x.v < top)
  | _ => none
theorem gRCone_ok (rvs : List RV) (r : Res) (p : Prop) (vs : List Value) (w : World) (hg : gRCone rvs = some (r, p)) (hp : p) (hv : RVs (wmem w) rvs vs) : Calls Try.prog 43 vs.toArray w (fun E w' => ∃ v, E = .returned v ∧ r.ok w w' v ∧ Below w.heap.size w w') := by
  unfold gRCone at hg
  split at hg
  · simp only [Option.some.injEq, Prod.mk.injEq] at hg
    obtain ⟨rfl, rfl⟩ := hg
    obtain ⟨hc, hn, hb, hw⟩ := hp
    match vs, hv with
    | [x, y], ⟨⟨oa, cap, h1, h2⟩, h3, _⟩ =>
      rw [h1, h3, cnN, cnL, hide_eq]
      rw [hc] at h2
      exact rcone_ok oa _ cap _ _ hw hn hb w h2
  · cases hg
noncomputable def K18 : Con Try.prog := K17.add 43 gRCone gRCone_ok
end Go.Proofs.Ytpghmnpbfaichaa
