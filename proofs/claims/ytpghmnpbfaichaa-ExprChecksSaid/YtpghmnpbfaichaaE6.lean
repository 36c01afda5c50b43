/- Are the nodes right? -/
import Derived.Test.YtpghmnpbfaichaaE5
namespace Go.Pl
open Go.Sx
theorem ordN_op : ∀ (l : List Nd) (i : Nat), ordN i l = true → ∀ x ∈ l, 1 ≤ x.op ∧ x.op ≤ 8
  | [], _, _, x, hx => by cases hx
  | y :: r, i, h, x, hx => by
    rw [ordN, Bool.and_eq_true, okN, Bool.and_eq_true, decide_eq_true_iff] at h
    rcases List.mem_cons.1 hx with rfl | h1
    · exact h.1.1
    · exact ordN_op r (i + 1) h.2 x h1
theorem stV_c {x : Nd} (h : x.op = 1) : stV x = .iface 102 (.agg #[.int .u64 (limb x.v 0 : Nat), .int .u64 (limb x.v 1 : Nat), .int .u64 (limb x.v 2 : Nat), .int .u64 (limb x.v 3 : Nat)]) := by unfold stV; rw [if_pos h]
theorem stV_q {x : Nd} (h : 2 ≤ x.op ∧ x.op ≤ 4) : stV x = .iface 103 (.agg #[.int .i64 x.op, .int .i64 x.a, .int .i64 x.b]) := by unfold stV; rw [if_neg (by omega), if_pos h]
theorem stV_n {x : Nd} (h : x.op = 5) : stV x = .iface 129 (.agg #[.int .i64 x.a]) := by unfold stV; rw [if_neg (by omega), if_neg (by omega), if_pos h]
theorem stV_a {x : Nd} (h : x.op = 6) : stV x = .iface 131 (.agg #[.int .i64 x.a, .int .i64 x.b]) := by unfold stV; rw [if_neg (by omega), if_neg (by omega), if_neg (by omega), if_pos h]
theorem stV_m {x : Nd} (h : x.op = 7) : stV x = .iface 132 (.agg #[.int .i64 x.a, .int .i64 x.b]) := by unfold stV; rw [if_neg (by omega), if_neg (by omega), if_neg (by omega), if_neg (by omega), if_pos h]
theorem stV_s {x : Nd} (h : x.op = 8) : stV x = .iface 134 (.agg #[.int .i64 x.a, .int .u64 (limb x.v 0 : Nat), .int .u64 (limb x.v 1 : Nat), .int .u64 (limb x.v 2 : Nat), .int .u64 (limb x.v 3 : Nat)]) := by unfold stV; rw [if_neg (by omega), if_neg (by omega), if_neg (by omega), if_neg (by omega), if_neg (by omega), if_pos h]
noncomputable def chkV (cs : List Value) (f a i : Int) : Int := hidZ (chkN (unNds cs) f a i)
end Go.Pl
namespace Go.Proofs.Ytpghmnpbfaichaa
open Go.Sx Go.Pl Go.RowKit
theorem ckc (N k M : Nat) (f a i : Int) (cs : List Value) (z0 z1 z2 z3 : Int) (kt : List It) : ((xgo Try.prog X (bodyOf Try.f44) 69 K5 [] 60 [.t, .lo 0 (.v (.iface 102 (.agg #[.int .u64 z0, .int .u64 z1, .int .u64 z2, .int .u64 z3]))), .f, .f] ((.nil)) (.at [0,0,1,0,1,1,1,1] :: .rnd [0,0,1,0,1,1,1,1] (M + 1) :: kt) ⟨[(34, .v (.int .i64 (k : Int))), (33, .v (.int .i64 (N : Int))), (32, .o 0), (11, .p 1 0), (8, .v (.int .i64 0))], [.row 82 1 N (mapv cs), .cells [.v (.int .i64 0), .v (.int .i64 0), .v (.int .i64 f), .v (.int .i64 a), .v (.int .i64 i)] 118]⟩ [] []).map (trims [34, 33, 32, 11, 8])) =
  some [Leaf2.mk [] [fun _ => decide ((↑k : Int) < (↑N : Int)) = true,
    fun _ => (0 : Int) ≤ (↑k : Int) ∧ (↑k : Int) < (↑N : Int),
    fun _ => (0 : Nat) < List.length (mapv cs),
    fun _ => (mapv cs)[Int.toNat (↑k : Int) * (1 : Nat)]? = some (SV.v (Value.iface (102 : Nat) (Value.agg (Array.mk [Value.int IntKind.u64 z0, Value.int IntKind.u64 z1, Value.int IntKind.u64 z2, Value.int IntKind.u64 z3])))),
    fun _ => (3 : Nat) ≤ (3 : Nat),
    fun _ => false = false,
    fun _ => false = false] (It.rnd [(0 : Nat), (0 : Nat), (1 : Nat), (0 : Nat), (1 : Nat), (1 : Nat), (1 : Nat), (1 : Nat)] (M + (1 : Nat)) :: kt) (St.mk [((34 : Nat), SV.v (Value.int IntKind.i64 (IntKind.wrap IntKind.i64 ((↑k : Int) + (1 : Int))))), ((33 : Nat), SV.v (Value.int IntKind.i64 (↑N : Int))), ((32 : Nat), SV.o (0 : Nat)), ((11 : Nat), SV.p (1 : Nat) (0 : Nat)), ((8 : Nat), SV.v (Value.int IntKind.i64 (0 : Int)))] [HO.row (82 : Nat) (1 : Nat) N (mapv cs), HO.cells [SV.v (Value.int IntKind.i64 (0 : Int)), SV.v (Value.int IntKind.i64 (0 : Int)), SV.v (Value.int IntKind.i64 f), SV.v (Value.int IntKind.i64 a), SV.v (Value.int IntKind.i64 i)] (118 : Nat), HO.cells [SV.v (Value.int IntKind.i64 (0 : Int)), SV.v (Value.int IntKind.i64 (0 : Int)), SV.v (Value.int IntKind.i64 (0 : Int))] (103 : Nat)])]
  := by kernel_rfl

theorem ckn (N k M : Nat) (f a i : Int) (cs : List Value) (x : Int) (kt : List It) : ((xgo Try.prog X (bodyOf Try.f44) 69 K5 [] 60 [.t, .lo 0 (.v (.iface 129 (.agg #[.int .i64 x]))), .f, .f] ((.nil)) (.at [0,0,1,0,1,1,1,1] :: .rnd [0,0,1,0,1,1,1,1] (M + 1) :: kt) ⟨[(34, .v (.int .i64 (k : Int))), (33, .v (.int .i64 (N : Int))), (32, .o 0), (11, .p 1 0), (8, .v (.int .i64 0))], [.row 82 1 N (mapv cs), .cells [.v (.int .i64 0), .v (.int .i64 0), .v (.int .i64 f), .v (.int .i64 a), .v (.int .i64 i)] 118]⟩ [] []).map (trims [34, 33, 32, 11, 8])) =
  some [Leaf2.mk [] [fun _ => decide ((↑k : Int) < (↑N : Int)) = true,
    fun _ => (0 : Int) ≤ (↑k : Int) ∧ (↑k : Int) < (↑N : Int),
    fun _ => (0 : Nat) < List.length (mapv cs),
    fun _ => (mapv cs)[Int.toNat (↑k : Int) * (1 : Nat)]? = some (SV.v (Value.iface (129 : Nat) (Value.agg (Array.mk [Value.int IntKind.i64 x])))),
    fun _ => (3 : Nat) ≤ (3 : Nat),
    fun _ => false = false,
    fun _ => false = false] (It.rnd [(0 : Nat), (0 : Nat), (1 : Nat), (0 : Nat), (1 : Nat), (1 : Nat), (1 : Nat), (1 : Nat)] (M + (1 : Nat)) :: kt) (St.mk [((34 : Nat), SV.v (Value.int IntKind.i64 (IntKind.wrap IntKind.i64 ((↑k : Int) + (1 : Int))))), ((33 : Nat), SV.v (Value.int IntKind.i64 (↑N : Int))), ((32 : Nat), SV.o (0 : Nat)), ((11 : Nat), SV.p (1 : Nat) (0 : Nat)), ((8 : Nat), SV.v (Value.int IntKind.i64 (0 : Int)))] [HO.row (82 : Nat) (1 : Nat) N (mapv cs), HO.cells [SV.v (Value.int IntKind.i64 (0 : Int)), SV.v (Value.int IntKind.i64 (0 : Int)), SV.v (Value.int IntKind.i64 f), SV.v (Value.int IntKind.i64 a), SV.v (Value.int IntKind.i64 i)] (118 : Nat), HO.cells [SV.v (Value.int IntKind.i64 (0 : Int)), SV.v (Value.int IntKind.i64 (0 : Int)), SV.v (Value.int IntKind.i64 (0 : Int))] (103 : Nat)])]
  := by kernel_rfl

theorem cka (N k M : Nat) (f a i : Int) (cs : List Value) (x y : Int) (kt : List It) : ((xgo Try.prog X (bodyOf Try.f44) 69 K5 [] 60 [.t, .lo 0 (.v (.iface 131 (.agg #[.int .i64 x, .int .i64 y]))), .f, .f] ((.nil)) (.at [0,0,1,0,1,1,1,1] :: .rnd [0,0,1,0,1,1,1,1] (M + 1) :: kt) ⟨[(34, .v (.int .i64 (k : Int))), (33, .v (.int .i64 (N : Int))), (32, .o 0), (11, .p 1 0), (8, .v (.int .i64 0))], [.row 82 1 N (mapv cs), .cells [.v (.int .i64 0), .v (.int .i64 0), .v (.int .i64 f), .v (.int .i64 a), .v (.int .i64 i)] 118]⟩ [] []).map (trims [34, 33, 32, 11, 8])) =
  some [Leaf2.mk [] [fun _ => decide ((↑k : Int) < (↑N : Int)) = true,
    fun _ => (0 : Int) ≤ (↑k : Int) ∧ (↑k : Int) < (↑N : Int),
    fun _ => (0 : Nat) < List.length (mapv cs),
    fun _ => (mapv cs)[Int.toNat (↑k : Int) * (1 : Nat)]? = some (SV.v (Value.iface (131 : Nat) (Value.agg (Array.mk [Value.int IntKind.i64 x, Value.int IntKind.i64 y])))),
    fun _ => (3 : Nat) ≤ (3 : Nat),
    fun _ => false = false,
    fun _ => false = false] (It.rnd [(0 : Nat), (0 : Nat), (1 : Nat), (0 : Nat), (1 : Nat), (1 : Nat), (1 : Nat), (1 : Nat)] (M + (1 : Nat)) :: kt) (St.mk [((34 : Nat), SV.v (Value.int IntKind.i64 (IntKind.wrap IntKind.i64 ((↑k : Int) + (1 : Int))))), ((33 : Nat), SV.v (Value.int IntKind.i64 (↑N : Int))), ((32 : Nat), SV.o (0 : Nat)), ((11 : Nat), SV.p (1 : Nat) (0 : Nat)), ((8 : Nat), SV.v (Value.int IntKind.i64 (0 : Int)))] [HO.row (82 : Nat) (1 : Nat) N (mapv cs), HO.cells [SV.v (Value.int IntKind.i64 (0 : Int)), SV.v (Value.int IntKind.i64 (0 : Int)), SV.v (Value.int IntKind.i64 f), SV.v (Value.int IntKind.i64 a), SV.v (Value.int IntKind.i64 i)] (118 : Nat), HO.cells [SV.v (Value.int IntKind.i64 (0 : Int)), SV.v (Value.int IntKind.i64 (0 : Int)), SV.v (Value.int IntKind.i64 (0 : Int))] (103 : Nat)])]
  := by kernel_rfl

theorem ckm (N k M : Nat) (f a i : Int) (cs : List Value) (x y : Int) (kt : List It) : ((xgo Try.prog X (bodyOf Try.f44) 69 K5 [] 60 [.t, .lo 0 (.v (.iface 132 (.agg #[.int .i64 x, .int .i64 y]))), .f, .f] ((.nil)) (.at [0,0,1,0,1,1,1,1] :: .rnd [0,0,1,0,1,1,1,1] (M + 1) :: kt) ⟨[(34, .v (.int .i64 (k : Int))), (33, .v (.int .i64 (N : Int))), (32, .o 0), (11, .p 1 0), (8, .v (.int .i64 0))], [.row 82 1 N (mapv cs), .cells [.v (.int .i64 0), .v (.int .i64 0), .v (.int .i64 f), .v (.int .i64 a), .v (.int .i64 i)] 118]⟩ [] []).map (trims [34, 33, 32, 11, 8])) =
  some [Leaf2.mk [] [fun _ => decide ((↑k : Int) < (↑N : Int)) = true,
    fun _ => (0 : Int) ≤ (↑k : Int) ∧ (↑k : Int) < (↑N : Int),
    fun _ => (0 : Nat) < List.length (mapv cs),
    fun _ => (mapv cs)[Int.toNat (↑k : Int) * (1 : Nat)]? = some (SV.v (Value.iface (132 : Nat) (Value.agg (Array.mk [Value.int IntKind.i64 x, Value.int IntKind.i64 y])))),
    fun _ => (3 : Nat) ≤ (3 : Nat),
    fun _ => false = false,
    fun _ => false = false] (It.rnd [(0 : Nat), (0 : Nat), (1 : Nat), (0 : Nat), (1 : Nat), (1 : Nat), (1 : Nat), (1 : Nat)] (M + (1 : Nat)) :: kt) (St.mk [((34 : Nat), SV.v (Value.int IntKind.i64 (IntKind.wrap IntKind.i64 ((↑k : Int) + (1 : Int))))), ((33 : Nat), SV.v (Value.int IntKind.i64 (↑N : Int))), ((32 : Nat), SV.o (0 : Nat)), ((11 : Nat), SV.p (1 : Nat) (0 : Nat)), ((8 : Nat), SV.v (Value.int IntKind.i64 (0 : Int)))] [HO.row (82 : Nat) (1 : Nat) N (mapv cs), HO.cells [SV.v (Value.int IntKind.i64 (0 : Int)), SV.v (Value.int IntKind.i64 (0 : Int)), SV.v (Value.int IntKind.i64 f), SV.v (Value.int IntKind.i64 a), SV.v (Value.int IntKind.i64 i)] (118 : Nat), HO.cells [SV.v (Value.int IntKind.i64 (0 : Int)), SV.v (Value.int IntKind.i64 (0 : Int)), SV.v (Value.int IntKind.i64 (0 : Int))] (103 : Nat)])]
  := by kernel_rfl

theorem cks (N k M : Nat) (f a i : Int) (cs : List Value) (x z0 z1 z2 z3 : Int) (kt : List It) : ((xgo Try.prog X (bodyOf Try.f44) 69 K5 [] 60 [.t, .lo 0 (.v (.iface 134 (.agg #[.int .i64 x, .int .u64 z0, .int .u64 z1, .int .u64 z2, .int .u64 z3]))), .f, .f] ((.nil)) (.at [0,0,1,0,1,1,1,1] :: .rnd [0,0,1,0,1,1,1,1] (M + 1) :: kt) ⟨[(34, .v (.int .i64 (k : Int))), (33, .v (.int .i64 (N : Int))), (32, .o 0), (11, .p 1 0), (8, .v (.int .i64 0))], [.row 82 1 N (mapv cs), .cells [.v (.int .i64 0), .v (.int .i64 0), .v (.int .i64 f), .v (.int .i64 a), .v (.int .i64 i)] 118]⟩ [] []).map (trims [34, 33, 32, 11, 8])) =
  some [Leaf2.mk [] [fun _ => decide ((↑k : Int) < (↑N : Int)) = true,
    fun _ => (0 : Int) ≤ (↑k : Int) ∧ (↑k : Int) < (↑N : Int),
    fun _ => (0 : Nat) < List.length (mapv cs),
    fun _ => (mapv cs)[Int.toNat (↑k : Int) * (1 : Nat)]? = some (SV.v (Value.iface (134 : Nat) (Value.agg (Array.mk [Value.int IntKind.i64 x, Value.int IntKind.u64 z0, Value.int IntKind.u64 z1, Value.int IntKind.u64 z2, Value.int IntKind.u64 z3])))),
    fun _ => (3 : Nat) ≤ (3 : Nat),
    fun _ => false = false,
    fun _ => false = false] (It.rnd [(0 : Nat), (0 : Nat), (1 : Nat), (0 : Nat), (1 : Nat), (1 : Nat), (1 : Nat), (1 : Nat)] (M + (1 : Nat)) :: kt) (St.mk [((34 : Nat), SV.v (Value.int IntKind.i64 (IntKind.wrap IntKind.i64 ((↑k : Int) + (1 : Int))))), ((33 : Nat), SV.v (Value.int IntKind.i64 (↑N : Int))), ((32 : Nat), SV.o (0 : Nat)), ((11 : Nat), SV.p (1 : Nat) (0 : Nat)), ((8 : Nat), SV.v (Value.int IntKind.i64 (0 : Int)))] [HO.row (82 : Nat) (1 : Nat) N (mapv cs), HO.cells [SV.v (Value.int IntKind.i64 (0 : Int)), SV.v (Value.int IntKind.i64 (0 : Int)), SV.v (Value.int IntKind.i64 f), SV.v (Value.int IntKind.i64 a), SV.v (Value.int IntKind.i64 i)] (118 : Nat), HO.cells [SV.v (Value.int IntKind.i64 (0 : Int)), SV.v (Value.int IntKind.i64 (0 : Int)), SV.v (Value.int IntKind.i64 (0 : Int))] (103 : Nat)])]
  := by kernel_rfl

theorem ck2 (N k M : Nat) (f a i : Int) (cs : List Value) (x y : Int) (kt : List It) : ((xgo Try.prog X (bodyOf Try.f44) 69 K5 [] 60 [.t, .lo 0 (.v (.iface 103 (.agg #[.int .i64 2, .int .i64 x, .int .i64 y]))), .t, .f, .f, .f, .f] ((.nil)) (.at [0,0,1,0,1,1,1,1] :: .rnd [0,0,1,0,1,1,1,1] (M + 1) :: kt) ⟨[(34, .v (.int .i64 (k : Int))), (33, .v (.int .i64 (N : Int))), (32, .o 0), (11, .p 1 0), (8, .v (.int .i64 0))], [.row 82 1 N (mapv cs), .cells [.v (.int .i64 0), .v (.int .i64 0), .v (.int .i64 f), .v (.int .i64 a), .v (.int .i64 i)] 118]⟩ [] []).map (trims [34, 33, 32, 11, 8])) =
  some [Leaf2.mk [] [fun _ => decide ((↑k : Int) < (↑N : Int)) = true,
    fun _ => (0 : Int) ≤ (↑k : Int) ∧ (↑k : Int) < (↑N : Int),
    fun _ => (0 : Nat) < List.length (mapv cs),
    fun _ => (mapv cs)[Int.toNat (↑k : Int) * (1 : Nat)]? = some (SV.v (Value.iface (103 : Nat) (Value.agg (Array.mk [Value.int IntKind.i64 (2 : Int), Value.int IntKind.i64 x, Value.int IntKind.i64 y])))),
    fun _ => (0 : Nat) + (3 : Nat) ≤ (3 : Nat),
    fun _ => true = true,
    fun _ => decide (x < (0 : Int)) = false,
    fun _ => (0 : Int) ≤ (2 : Int) ∧ (2 : Int) < (5 : Int),
    fun _ => decide (f ≤ x) = false,
    fun _ => decide (y < (-3 : Int)) = false,
    fun _ => decide ((3 : Int) < y) = false] (It.rnd [(0 : Nat), (0 : Nat), (1 : Nat), (0 : Nat), (1 : Nat), (1 : Nat), (1 : Nat), (1 : Nat)] (M + (1 : Nat)) :: kt) (St.mk [((34 : Nat), SV.v (Value.int IntKind.i64 (IntKind.wrap IntKind.i64 ((↑k : Int) + (1 : Int))))), ((33 : Nat), SV.v (Value.int IntKind.i64 (↑N : Int))), ((32 : Nat), SV.o (0 : Nat)), ((11 : Nat), SV.p (1 : Nat) (0 : Nat)), ((8 : Nat), SV.v (Value.int IntKind.i64 (0 : Int)))] [HO.row (82 : Nat) (1 : Nat) N (mapv cs), HO.cells [SV.v (Value.int IntKind.i64 (0 : Int)), SV.v (Value.int IntKind.i64 (0 : Int)), SV.v (Value.int IntKind.i64 f), SV.v (Value.int IntKind.i64 a), SV.v (Value.int IntKind.i64 i)] (118 : Nat), HO.cells [SV.v (Value.int IntKind.i64 (2 : Int)), SV.v (Value.int IntKind.i64 x), SV.v (Value.int IntKind.i64 y)] (103 : Nat)])]
  := by kernel_rfl

theorem ce2a (N k M : Nat) (f a i : Int) (cs : List Value) (x y : Int) : (((xgo Try.prog X (bodyOf Try.f44) 69 K5 [] 60 [.t, .lo 0 (.v (.iface 103 (.agg #[.int .i64 2, .int .i64 x, .int .i64 y]))), .t, .t, .t, .t, .t] ((.nil)) [.at [0,0,1,0,1,1,1,1], .rnd [0,0,1,0,1,1,1,1] (M + 1), .blk 0, .at [1,1,1,1,1]] ⟨[(34, .v (.int .i64 (k : Int))), (33, .v (.int .i64 (N : Int))), (32, .o 0), (11, .p 1 0), (8, .v (.int .i64 0))], [.row 82 1 N (mapv cs), .cells [.v (.int .i64 0), .v (.int .i64 0), .v (.int .i64 f), .v (.int .i64 a), .v (.int .i64 i)] 118]⟩ [] []).bind (ends Try.prog Try.f44.results.toList)).bind plainE) =
  some [EndP.mk [] [fun _ => decide ((↑k : Int) < (↑N : Int)) = true,
    fun _ => (0 : Int) ≤ (↑k : Int) ∧ (↑k : Int) < (↑N : Int),
    fun _ => (0 : Nat) < List.length (mapv cs),
    fun _ => (mapv cs)[Int.toNat (↑k : Int) * (1 : Nat)]? = some (SV.v (Value.iface (103 : Nat) (Value.agg (Array.mk [Value.int IntKind.i64 (2 : Int), Value.int IntKind.i64 x, Value.int IntKind.i64 y])))),
    fun _ => (0 : Nat) + (3 : Nat) ≤ (3 : Nat),
    fun _ => true = true,
    fun _ => decide (x < (0 : Int)) = true,
    fun _ => true = true,
    fun _ => true = true,
    fun _ => true = true] (Res.v (Value.int IntKind.i64 (110 : Int)))]
  := by kernel_rfl

theorem ce2b (N k M : Nat) (f a i : Int) (cs : List Value) (x y : Int) : (((xgo Try.prog X (bodyOf Try.f44) 69 K5 [] 60 [.t, .lo 0 (.v (.iface 103 (.agg #[.int .i64 2, .int .i64 x, .int .i64 y]))), .t, .f, .t, .t, .t] ((.nil)) [.at [0,0,1,0,1,1,1,1], .rnd [0,0,1,0,1,1,1,1] (M + 1), .blk 0, .at [1,1,1,1,1]] ⟨[(34, .v (.int .i64 (k : Int))), (33, .v (.int .i64 (N : Int))), (32, .o 0), (11, .p 1 0), (8, .v (.int .i64 0))], [.row 82 1 N (mapv cs), .cells [.v (.int .i64 0), .v (.int .i64 0), .v (.int .i64 f), .v (.int .i64 a), .v (.int .i64 i)] 118]⟩ [] []).bind (ends Try.prog Try.f44.results.toList)).bind plainE) =
  some [EndP.mk [] [fun _ => decide ((↑k : Int) < (↑N : Int)) = true,
    fun _ => (0 : Int) ≤ (↑k : Int) ∧ (↑k : Int) < (↑N : Int),
    fun _ => (0 : Nat) < List.length (mapv cs),
    fun _ => (mapv cs)[Int.toNat (↑k : Int) * (1 : Nat)]? = some (SV.v (Value.iface (103 : Nat) (Value.agg (Array.mk [Value.int IntKind.i64 (2 : Int), Value.int IntKind.i64 x, Value.int IntKind.i64 y])))),
    fun _ => (0 : Nat) + (3 : Nat) ≤ (3 : Nat),
    fun _ => true = true,
    fun _ => decide (x < (0 : Int)) = false,
    fun _ => (0 : Int) ≤ (2 : Int) ∧ (2 : Int) < (5 : Int),
    fun _ => decide (f ≤ x) = true,
    fun _ => true = true,
    fun _ => true = true] (Res.v (Value.int IntKind.i64 (110 : Int)))]
  := by kernel_rfl

theorem ce2c (N k M : Nat) (f a i : Int) (cs : List Value) (x y : Int) : (((xgo Try.prog X (bodyOf Try.f44) 69 K5 [] 60 [.t, .lo 0 (.v (.iface 103 (.agg #[.int .i64 2, .int .i64 x, .int .i64 y]))), .t, .f, .f, .t, .t] ((.nil)) [.at [0,0,1,0,1,1,1,1], .rnd [0,0,1,0,1,1,1,1] (M + 1), .blk 0, .at [1,1,1,1,1]] ⟨[(34, .v (.int .i64 (k : Int))), (33, .v (.int .i64 (N : Int))), (32, .o 0), (11, .p 1 0), (8, .v (.int .i64 0))], [.row 82 1 N (mapv cs), .cells [.v (.int .i64 0), .v (.int .i64 0), .v (.int .i64 f), .v (.int .i64 a), .v (.int .i64 i)] 118]⟩ [] []).bind (ends Try.prog Try.f44.results.toList)).bind plainE) =
  some [EndP.mk [] [fun _ => decide ((↑k : Int) < (↑N : Int)) = true,
    fun _ => (0 : Int) ≤ (↑k : Int) ∧ (↑k : Int) < (↑N : Int),
    fun _ => (0 : Nat) < List.length (mapv cs),
    fun _ => (mapv cs)[Int.toNat (↑k : Int) * (1 : Nat)]? = some (SV.v (Value.iface (103 : Nat) (Value.agg (Array.mk [Value.int IntKind.i64 (2 : Int), Value.int IntKind.i64 x, Value.int IntKind.i64 y])))),
    fun _ => (0 : Nat) + (3 : Nat) ≤ (3 : Nat),
    fun _ => true = true,
    fun _ => decide (x < (0 : Int)) = false,
    fun _ => (0 : Int) ≤ (2 : Int) ∧ (2 : Int) < (5 : Int),
    fun _ => decide (f ≤ x) = false,
    fun _ => decide (y < (-3 : Int)) = true,
    fun _ => true = true] (Res.v (Value.int IntKind.i64 (110 : Int)))]
  := by kernel_rfl

theorem ce2d (N k M : Nat) (f a i : Int) (cs : List Value) (x y : Int) : (((xgo Try.prog X (bodyOf Try.f44) 69 K5 [] 60 [.t, .lo 0 (.v (.iface 103 (.agg #[.int .i64 2, .int .i64 x, .int .i64 y]))), .t, .f, .f, .f, .t] ((.nil)) [.at [0,0,1,0,1,1,1,1], .rnd [0,0,1,0,1,1,1,1] (M + 1), .blk 0, .at [1,1,1,1,1]] ⟨[(34, .v (.int .i64 (k : Int))), (33, .v (.int .i64 (N : Int))), (32, .o 0), (11, .p 1 0), (8, .v (.int .i64 0))], [.row 82 1 N (mapv cs), .cells [.v (.int .i64 0), .v (.int .i64 0), .v (.int .i64 f), .v (.int .i64 a), .v (.int .i64 i)] 118]⟩ [] []).bind (ends Try.prog Try.f44.results.toList)).bind plainE) =
  some [EndP.mk [] [fun _ => decide ((↑k : Int) < (↑N : Int)) = true,
    fun _ => (0 : Int) ≤ (↑k : Int) ∧ (↑k : Int) < (↑N : Int),
    fun _ => (0 : Nat) < List.length (mapv cs),
    fun _ => (mapv cs)[Int.toNat (↑k : Int) * (1 : Nat)]? = some (SV.v (Value.iface (103 : Nat) (Value.agg (Array.mk [Value.int IntKind.i64 (2 : Int), Value.int IntKind.i64 x, Value.int IntKind.i64 y])))),
    fun _ => (0 : Nat) + (3 : Nat) ≤ (3 : Nat),
    fun _ => true = true,
    fun _ => decide (x < (0 : Int)) = false,
    fun _ => (0 : Int) ≤ (2 : Int) ∧ (2 : Int) < (5 : Int),
    fun _ => decide (f ≤ x) = false,
    fun _ => decide (y < (-3 : Int)) = false,
    fun _ => decide ((3 : Int) < y) = true] (Res.v (Value.int IntKind.i64 (110 : Int)))]
  := by kernel_rfl

theorem ck3 (N k M : Nat) (f a i : Int) (cs : List Value) (x y : Int) (kt : List It) : ((xgo Try.prog X (bodyOf Try.f44) 69 K5 [] 60 [.t, .lo 0 (.v (.iface 103 (.agg #[.int .i64 3, .int .i64 x, .int .i64 y]))), .t, .f, .f, .f, .f] ((.nil)) (.at [0,0,1,0,1,1,1,1] :: .rnd [0,0,1,0,1,1,1,1] (M + 1) :: kt) ⟨[(34, .v (.int .i64 (k : Int))), (33, .v (.int .i64 (N : Int))), (32, .o 0), (11, .p 1 0), (8, .v (.int .i64 0))], [.row 82 1 N (mapv cs), .cells [.v (.int .i64 0), .v (.int .i64 0), .v (.int .i64 f), .v (.int .i64 a), .v (.int .i64 i)] 118]⟩ [] []).map (trims [34, 33, 32, 11, 8])) =
  some [Leaf2.mk [] [fun _ => decide ((↑k : Int) < (↑N : Int)) = true,
    fun _ => (0 : Int) ≤ (↑k : Int) ∧ (↑k : Int) < (↑N : Int),
    fun _ => (0 : Nat) < List.length (mapv cs),
    fun _ => (mapv cs)[Int.toNat (↑k : Int) * (1 : Nat)]? = some (SV.v (Value.iface (103 : Nat) (Value.agg (Array.mk [Value.int IntKind.i64 (3 : Int), Value.int IntKind.i64 x, Value.int IntKind.i64 y])))),
    fun _ => (0 : Nat) + (3 : Nat) ≤ (3 : Nat),
    fun _ => true = true,
    fun _ => decide (x < (0 : Int)) = false,
    fun _ => (0 : Int) ≤ (3 : Int) ∧ (3 : Int) < (5 : Int),
    fun _ => decide (a ≤ x) = false,
    fun _ => decide (y < (-3 : Int)) = false,
    fun _ => decide ((3 : Int) < y) = false] (It.rnd [(0 : Nat), (0 : Nat), (1 : Nat), (0 : Nat), (1 : Nat), (1 : Nat), (1 : Nat), (1 : Nat)] (M + (1 : Nat)) :: kt) (St.mk [((34 : Nat), SV.v (Value.int IntKind.i64 (IntKind.wrap IntKind.i64 ((↑k : Int) + (1 : Int))))), ((33 : Nat), SV.v (Value.int IntKind.i64 (↑N : Int))), ((32 : Nat), SV.o (0 : Nat)), ((11 : Nat), SV.p (1 : Nat) (0 : Nat)), ((8 : Nat), SV.v (Value.int IntKind.i64 (0 : Int)))] [HO.row (82 : Nat) (1 : Nat) N (mapv cs), HO.cells [SV.v (Value.int IntKind.i64 (0 : Int)), SV.v (Value.int IntKind.i64 (0 : Int)), SV.v (Value.int IntKind.i64 f), SV.v (Value.int IntKind.i64 a), SV.v (Value.int IntKind.i64 i)] (118 : Nat), HO.cells [SV.v (Value.int IntKind.i64 (3 : Int)), SV.v (Value.int IntKind.i64 x), SV.v (Value.int IntKind.i64 y)] (103 : Nat)])]
  := by kernel_rfl

theorem ce3a (N k M : Nat) (f a i : Int) (cs : List Value) (x y : Int) : (((xgo Try.prog X (bodyOf Try.f44) 69 K5 [] 60 [.t, .lo 0 (.v (.iface 103 (.agg #[.int .i64 3, .int .i64 x, .int .i64 y]))), .t, .t, .t, .t, .t] ((.nil)) [.at [0,0,1,0,1,1,1,1], .rnd [0,0,1,0,1,1,1,1] (M + 1), .blk 0, .at [1,1,1,1,1]] ⟨[(34, .v (.int .i64 (k : Int))), (33, .v (.int .i64 (N : Int))), (32, .o 0), (11, .p 1 0), (8, .v (.int .i64 0))], [.row 82 1 N (mapv cs), .cells [.v (.int .i64 0), .v (.int .i64 0), .v (.int .i64 f), .v (.int .i64 a), .v (.int .i64 i)] 118]⟩ [] []).bind (ends Try.prog Try.f44.results.toList)).bind plainE) =
  some [EndP.mk [] [fun _ => decide ((↑k : Int) < (↑N : Int)) = true,
    fun _ => (0 : Int) ≤ (↑k : Int) ∧ (↑k : Int) < (↑N : Int),
    fun _ => (0 : Nat) < List.length (mapv cs),
    fun _ => (mapv cs)[Int.toNat (↑k : Int) * (1 : Nat)]? = some (SV.v (Value.iface (103 : Nat) (Value.agg (Array.mk [Value.int IntKind.i64 (3 : Int), Value.int IntKind.i64 x, Value.int IntKind.i64 y])))),
    fun _ => (0 : Nat) + (3 : Nat) ≤ (3 : Nat),
    fun _ => true = true,
    fun _ => decide (x < (0 : Int)) = true,
    fun _ => true = true,
    fun _ => true = true,
    fun _ => true = true] (Res.v (Value.int IntKind.i64 (110 : Int)))]
  := by kernel_rfl

theorem ce3b (N k M : Nat) (f a i : Int) (cs : List Value) (x y : Int) : (((xgo Try.prog X (bodyOf Try.f44) 69 K5 [] 60 [.t, .lo 0 (.v (.iface 103 (.agg #[.int .i64 3, .int .i64 x, .int .i64 y]))), .t, .f, .t, .t, .t] ((.nil)) [.at [0,0,1,0,1,1,1,1], .rnd [0,0,1,0,1,1,1,1] (M + 1), .blk 0, .at [1,1,1,1,1]] ⟨[(34, .v (.int .i64 (k : Int))), (33, .v (.int .i64 (N : Int))), (32, .o 0), (11, .p 1 0), (8, .v (.int .i64 0))], [.row 82 1 N (mapv cs), .cells [.v (.int .i64 0), .v (.int .i64 0), .v (.int .i64 f), .v (.int .i64 a), .v (.int .i64 i)] 118]⟩ [] []).bind (ends Try.prog Try.f44.results.toList)).bind plainE) =
  some [EndP.mk [] [fun _ => decide ((↑k : Int) < (↑N : Int)) = true,
    fun _ => (0 : Int) ≤ (↑k : Int) ∧ (↑k : Int) < (↑N : Int),
    fun _ => (0 : Nat) < List.length (mapv cs),
    fun _ => (mapv cs)[Int.toNat (↑k : Int) * (1 : Nat)]? = some (SV.v (Value.iface (103 : Nat) (Value.agg (Array.mk [Value.int IntKind.i64 (3 : Int), Value.int IntKind.i64 x, Value.int IntKind.i64 y])))),
    fun _ => (0 : Nat) + (3 : Nat) ≤ (3 : Nat),
    fun _ => true = true,
    fun _ => decide (x < (0 : Int)) = false,
    fun _ => (0 : Int) ≤ (3 : Int) ∧ (3 : Int) < (5 : Int),
    fun _ => decide (a ≤ x) = true,
    fun _ => true = true,
    fun _ => true = true] (Res.v (Value.int IntKind.i64 (110 : Int)))]
  := by kernel_rfl

theorem ce3c (N k M : Nat) (f a i : Int) (cs : List Value) (x y : Int) : (((xgo Try.prog X (bodyOf Try.f44) 69 K5 [] 60 [.t, .lo 0 (.v (.iface 103 (.agg #[.int .i64 3, .int .i64 x, .int .i64 y]))), .t, .f, .f, .t, .t] ((.nil)) [.at [0,0,1,0,1,1,1,1], .rnd [0,0,1,0,1,1,1,1] (M + 1), .blk 0, .at [1,1,1,1,1]] ⟨[(34, .v (.int .i64 (k : Int))), (33, .v (.int .i64 (N : Int))), (32, .o 0), (11, .p 1 0), (8, .v (.int .i64 0))], [.row 82 1 N (mapv cs), .cells [.v (.int .i64 0), .v (.int .i64 0), .v (.int .i64 f), .v (.int .i64 a), .v (.int .i64 i)] 118]⟩ [] []).bind (ends Try.prog Try.f44.results.toList)).bind plainE) =
  some [EndP.mk [] [fun _ => decide ((↑k : Int) < (↑N : Int)) = true,
    fun _ => (0 : Int) ≤ (↑k : Int) ∧ (↑k : Int) < (↑N : Int),
    fun _ => (0 : Nat) < List.length (mapv cs),
    fun _ => (mapv cs)[Int.toNat (↑k : Int) * (1 : Nat)]? = some (SV.v (Value.iface (103 : Nat) (Value.agg (Array.mk [Value.int IntKind.i64 (3 : Int), Value.int IntKind.i64 x, Value.int IntKind.i64 y])))),
    fun _ => (0 : Nat) + (3 : Nat) ≤ (3 : Nat),
    fun _ => true = true,
    fun _ => decide (x < (0 : Int)) = false,
    fun _ => (0 : Int) ≤ (3 : Int) ∧ (3 : Int) < (5 : Int),
    fun _ => decide (a ≤ x) = false,
    fun _ => decide (y < (-3 : Int)) = true,
    fun _ => true = true] (Res.v (Value.int IntKind.i64 (110 : Int)))]
  := by kernel_rfl

theorem ce3d (N k M : Nat) (f a i : Int) (cs : List Value) (x y : Int) : (((xgo Try.prog X (bodyOf Try.f44) 69 K5 [] 60 [.t, .lo 0 (.v (.iface 103 (.agg #[.int .i64 3, .int .i64 x, .int .i64 y]))), .t, .f, .f, .f, .t] ((.nil)) [.at [0,0,1,0,1,1,1,1], .rnd [0,0,1,0,1,1,1,1] (M + 1), .blk 0, .at [1,1,1,1,1]] ⟨[(34, .v (.int .i64 (k : Int))), (33, .v (.int .i64 (N : Int))), (32, .o 0), (11, .p 1 0), (8, .v (.int .i64 0))], [.row 82 1 N (mapv cs), .cells [.v (.int .i64 0), .v (.int .i64 0), .v (.int .i64 f), .v (.int .i64 a), .v (.int .i64 i)] 118]⟩ [] []).bind (ends Try.prog Try.f44.results.toList)).bind plainE) =
  some [EndP.mk [] [fun _ => decide ((↑k : Int) < (↑N : Int)) = true,
    fun _ => (0 : Int) ≤ (↑k : Int) ∧ (↑k : Int) < (↑N : Int),
    fun _ => (0 : Nat) < List.length (mapv cs),
    fun _ => (mapv cs)[Int.toNat (↑k : Int) * (1 : Nat)]? = some (SV.v (Value.iface (103 : Nat) (Value.agg (Array.mk [Value.int IntKind.i64 (3 : Int), Value.int IntKind.i64 x, Value.int IntKind.i64 y])))),
    fun _ => (0 : Nat) + (3 : Nat) ≤ (3 : Nat),
    fun _ => true = true,
    fun _ => decide (x < (0 : Int)) = false,
    fun _ => (0 : Int) ≤ (3 : Int) ∧ (3 : Int) < (5 : Int),
    fun _ => decide (a ≤ x) = false,
    fun _ => decide (y < (-3 : Int)) = false,
    fun _ => decide ((3 : Int) < y) = true] (Res.v (Value.int IntKind.i64 (110 : Int)))]
  := by kernel_rfl

theorem ck4 (N k M : Nat) (f a i : Int) (cs : List Value) (x y : Int) (kt : List It) : ((xgo Try.prog X (bodyOf Try.f44) 69 K5 [] 60 [.t, .lo 0 (.v (.iface 103 (.agg #[.int .i64 4, .int .i64 x, .int .i64 y]))), .t, .f, .f, .f, .f] ((.nil)) (.at [0,0,1,0,1,1,1,1] :: .rnd [0,0,1,0,1,1,1,1] (M + 1) :: kt) ⟨[(34, .v (.int .i64 (k : Int))), (33, .v (.int .i64 (N : Int))), (32, .o 0), (11, .p 1 0), (8, .v (.int .i64 0))], [.row 82 1 N (mapv cs), .cells [.v (.int .i64 0), .v (.int .i64 0), .v (.int .i64 f), .v (.int .i64 a), .v (.int .i64 i)] 118]⟩ [] []).map (trims [34, 33, 32, 11, 8])) =
  some [Leaf2.mk [] [fun _ => decide ((↑k : Int) < (↑N : Int)) = true,
    fun _ => (0 : Int) ≤ (↑k : Int) ∧ (↑k : Int) < (↑N : Int),
    fun _ => (0 : Nat) < List.length (mapv cs),
    fun _ => (mapv cs)[Int.toNat (↑k : Int) * (1 : Nat)]? = some (SV.v (Value.iface (103 : Nat) (Value.agg (Array.mk [Value.int IntKind.i64 (4 : Int), Value.int IntKind.i64 x, Value.int IntKind.i64 y])))),
    fun _ => (0 : Nat) + (3 : Nat) ≤ (3 : Nat),
    fun _ => true = true,
    fun _ => decide (x < (0 : Int)) = false,
    fun _ => (0 : Int) ≤ (4 : Int) ∧ (4 : Int) < (5 : Int),
    fun _ => decide (i ≤ x) = false,
    fun _ => decide (y < (-3 : Int)) = false,
    fun _ => decide ((3 : Int) < y) = false] (It.rnd [(0 : Nat), (0 : Nat), (1 : Nat), (0 : Nat), (1 : Nat), (1 : Nat), (1 : Nat), (1 : Nat)] (M + (1 : Nat)) :: kt) (St.mk [((34 : Nat), SV.v (Value.int IntKind.i64 (IntKind.wrap IntKind.i64 ((↑k : Int) + (1 : Int))))), ((33 : Nat), SV.v (Value.int IntKind.i64 (↑N : Int))), ((32 : Nat), SV.o (0 : Nat)), ((11 : Nat), SV.p (1 : Nat) (0 : Nat)), ((8 : Nat), SV.v (Value.int IntKind.i64 (0 : Int)))] [HO.row (82 : Nat) (1 : Nat) N (mapv cs), HO.cells [SV.v (Value.int IntKind.i64 (0 : Int)), SV.v (Value.int IntKind.i64 (0 : Int)), SV.v (Value.int IntKind.i64 f), SV.v (Value.int IntKind.i64 a), SV.v (Value.int IntKind.i64 i)] (118 : Nat), HO.cells [SV.v (Value.int IntKind.i64 (4 : Int)), SV.v (Value.int IntKind.i64 x), SV.v (Value.int IntKind.i64 y)] (103 : Nat)])]
  := by kernel_rfl

theorem ce4a (N k M : Nat) (f a i : Int) (cs : List Value) (x y : Int) : (((xgo Try.prog X (bodyOf Try.f44) 69 K5 [] 60 [.t, .lo 0 (.v (.iface 103 (.agg #[.int .i64 4, .int .i64 x, .int .i64 y]))), .t, .t, .t, .t, .t] ((.nil)) [.at [0,0,1,0,1,1,1,1], .rnd [0,0,1,0,1,1,1,1] (M + 1), .blk 0, .at [1,1,1,1,1]] ⟨[(34, .v (.int .i64 (k : Int))), (33, .v (.int .i64 (N : Int))), (32, .o 0), (11, .p 1 0), (8, .v (.int .i64 0))], [.row 82 1 N (mapv cs), .cells [.v (.int .i64 0), .v (.int .i64 0), .v (.int .i64 f), .v (.int .i64 a), .v (.int .i64 i)] 118]⟩ [] []).bind (ends Try.prog Try.f44.results.toList)).bind plainE) =
  some [EndP.mk [] [fun _ => decide ((↑k : Int) < (↑N : Int)) = true,
    fun _ => (0 : Int) ≤ (↑k : Int) ∧ (↑k : Int) < (↑N : Int),
    fun _ => (0 : Nat) < List.length (mapv cs),
    fun _ => (mapv cs)[Int.toNat (↑k : Int) * (1 : Nat)]? = some (SV.v (Value.iface (103 : Nat) (Value.agg (Array.mk [Value.int IntKind.i64 (4 : Int), Value.int IntKind.i64 x, Value.int IntKind.i64 y])))),
    fun _ => (0 : Nat) + (3 : Nat) ≤ (3 : Nat),
    fun _ => true = true,
    fun _ => decide (x < (0 : Int)) = true,
    fun _ => true = true,
    fun _ => true = true,
    fun _ => true = true] (Res.v (Value.int IntKind.i64 (110 : Int)))]
  := by kernel_rfl

theorem ce4b (N k M : Nat) (f a i : Int) (cs : List Value) (x y : Int) : (((xgo Try.prog X (bodyOf Try.f44) 69 K5 [] 60 [.t, .lo 0 (.v (.iface 103 (.agg #[.int .i64 4, .int .i64 x, .int .i64 y]))), .t, .f, .t, .t, .t] ((.nil)) [.at [0,0,1,0,1,1,1,1], .rnd [0,0,1,0,1,1,1,1] (M + 1), .blk 0, .at [1,1,1,1,1]] ⟨[(34, .v (.int .i64 (k : Int))), (33, .v (.int .i64 (N : Int))), (32, .o 0), (11, .p 1 0), (8, .v (.int .i64 0))], [.row 82 1 N (mapv cs), .cells [.v (.int .i64 0), .v (.int .i64 0), .v (.int .i64 f), .v (.int .i64 a), .v (.int .i64 i)] 118]⟩ [] []).bind (ends Try.prog Try.f44.results.toList)).bind plainE) =
  some [EndP.mk [] [fun _ => decide ((↑k : Int) < (↑N : Int)) = true,
    fun _ => (0 : Int) ≤ (↑k : Int) ∧ (↑k : Int) < (↑N : Int),
    fun _ => (0 : Nat) < List.length (mapv cs),
    fun _ => (mapv cs)[Int.toNat (↑k : Int) * (1 : Nat)]? = some (SV.v (Value.iface (103 : Nat) (Value.agg (Array.mk [Value.int IntKind.i64 (4 : Int), Value.int IntKind.i64 x, Value.int IntKind.i64 y])))),
    fun _ => (0 : Nat) + (3 : Nat) ≤ (3 : Nat),
    fun _ => true = true,
    fun _ => decide (x < (0 : Int)) = false,
    fun _ => (0 : Int) ≤ (4 : Int) ∧ (4 : Int) < (5 : Int),
    fun _ => decide (i ≤ x) = true,
    fun _ => true = true,
    fun _ => true = true] (Res.v (Value.int IntKind.i64 (110 : Int)))]
  := by kernel_rfl

theorem ce4c (N k M : Nat) (f a i : Int) (cs : List Value) (x y : Int) : (((xgo Try.prog X (bodyOf Try.f44) 69 K5 [] 60 [.t, .lo 0 (.v (.iface 103 (.agg #[.int .i64 4, .int .i64 x, .int .i64 y]))), .t, .f, .f, .t, .t] ((.nil)) [.at [0,0,1,0,1,1,1,1], .rnd [0,0,1,0,1,1,1,1] (M + 1), .blk 0, .at [1,1,1,1,1]] ⟨[(34, .v (.int .i64 (k : Int))), (33, .v (.int .i64 (N : Int))), (32, .o 0), (11, .p 1 0), (8, .v (.int .i64 0))], [.row 82 1 N (mapv cs), .cells [.v (.int .i64 0), .v (.int .i64 0), .v (.int .i64 f), .v (.int .i64 a), .v (.int .i64 i)] 118]⟩ [] []).bind (ends Try.prog Try.f44.results.toList)).bind plainE) =
  some [EndP.mk [] [fun _ => decide ((↑k : Int) < (↑N : Int)) = true,
    fun _ => (0 : Int) ≤ (↑k : Int) ∧ (↑k : Int) < (↑N : Int),
    fun _ => (0 : Nat) < List.length (mapv cs),
    fun _ => (mapv cs)[Int.toNat (↑k : Int) * (1 : Nat)]? = some (SV.v (Value.iface (103 : Nat) (Value.agg (Array.mk [Value.int IntKind.i64 (4 : Int), Value.int IntKind.i64 x, Value.int IntKind.i64 y])))),
    fun _ => (0 : Nat) + (3 : Nat) ≤ (3 : Nat),
    fun _ => true = true,
    fun _ => decide (x < (0 : Int)) = false,
    fun _ => (0 : Int) ≤ (4 : Int) ∧ (4 : Int) < (5 : Int),
    fun _ => decide (i ≤ x) = false,
    fun _ => decide (y < (-3 : Int)) = true,
    fun _ => true = true] (Res.v (Value.int IntKind.i64 (110 : Int)))]
  := by kernel_rfl

theorem ce4d (N k M : Nat) (f a i : Int) (cs : List Value) (x y : Int) : (((xgo Try.prog X (bodyOf Try.f44) 69 K5 [] 60 [.t, .lo 0 (.v (.iface 103 (.agg #[.int .i64 4, .int .i64 x, .int .i64 y]))), .t, .f, .f, .f, .t] ((.nil)) [.at [0,0,1,0,1,1,1,1], .rnd [0,0,1,0,1,1,1,1] (M + 1), .blk 0, .at [1,1,1,1,1]] ⟨[(34, .v (.int .i64 (k : Int))), (33, .v (.int .i64 (N : Int))), (32, .o 0), (11, .p 1 0), (8, .v (.int .i64 0))], [.row 82 1 N (mapv cs), .cells [.v (.int .i64 0), .v (.int .i64 0), .v (.int .i64 f), .v (.int .i64 a), .v (.int .i64 i)] 118]⟩ [] []).bind (ends Try.prog Try.f44.results.toList)).bind plainE) =
  some [EndP.mk [] [fun _ => decide ((↑k : Int) < (↑N : Int)) = true,
    fun _ => (0 : Int) ≤ (↑k : Int) ∧ (↑k : Int) < (↑N : Int),
    fun _ => (0 : Nat) < List.length (mapv cs),
    fun _ => (mapv cs)[Int.toNat (↑k : Int) * (1 : Nat)]? = some (SV.v (Value.iface (103 : Nat) (Value.agg (Array.mk [Value.int IntKind.i64 (4 : Int), Value.int IntKind.i64 x, Value.int IntKind.i64 y])))),
    fun _ => (0 : Nat) + (3 : Nat) ≤ (3 : Nat),
    fun _ => true = true,
    fun _ => decide (x < (0 : Int)) = false,
    fun _ => (0 : Int) ≤ (4 : Int) ∧ (4 : Int) < (5 : Int),
    fun _ => decide (i ≤ x) = false,
    fun _ => decide (y < (-3 : Int)) = false,
    fun _ => decide ((3 : Int) < y) = true] (Res.v (Value.int IntKind.i64 (110 : Int)))]
  := by kernel_rfl

theorem cend (N k M : Nat) (f a i : Int) (cs : List Value) : (((xgo Try.prog X (bodyOf Try.f44) 69 K5 [] 60 [.f] ((.nil)) [.at [0,0,1,0,1,1,1,1], .rnd [0,0,1,0,1,1,1,1] (M + 1), .blk 0, .at [1,1,1,1,1]] ⟨[(34, .v (.int .i64 (k : Int))), (33, .v (.int .i64 (N : Int))), (32, .o 0), (11, .p 1 0), (8, .v (.int .i64 0))], [.row 82 1 N (mapv cs), .cells [.v (.int .i64 0), .v (.int .i64 0), .v (.int .i64 f), .v (.int .i64 a), .v (.int .i64 i)] 118]⟩ [] []).bind (ends Try.prog Try.f44.results.toList)).bind plainE) =
  some [EndP.mk [] [fun _ => decide ((↑k : Int) < (↑N : Int)) = false] (Res.v (Value.int IntKind.i64 (0 : Int)))]
  := by kernel_rfl

theorem ckS (oa : Option Addr) (n cap : Nat) (f a i : Int) (l : List Nd) : ((xgo Try.prog X (bodyOf Try.f44) 69 K5 [] 60 [.lx (nodesC l), .f, .f] ((.nil)) [.at []] ⟨argsTm 0 [.slice oa n cap, .int .i64 f, .int .i64 a, .int .i64 i], []⟩ [] []).map (trims [34, 33, 32, 11, 8])) =
  some [Leaf2.mk [] [fun M => nodesC l = [] ∨ MCells (fun a => M a) oa (nodesC l),
    fun _ => nodesC l = nodesC (unNds (nodesC l)) ∧ List.length (unNds (nodesC l)) = n ∧ n ≤ (4398046511104 : Nat),
    fun _ => (!stB (nodesC l)) = false,
    fun _ => decide ((64 : Int) < (↑n : Int)) = false,
    fun _ => (0 : Nat) + (5 : Nat) ≤ (5 : Nat)] [It.at [(0 : Nat), (1 : Nat), (0 : Nat), (1 : Nat), (1 : Nat), (1 : Nat), (1 : Nat)], It.blk (0 : Nat), It.at [(1 : Nat), (1 : Nat), (1 : Nat), (1 : Nat), (1 : Nat)]] (St.mk [((34 : Nat), SV.v (Value.int IntKind.i64 (0 : Int))), ((33 : Nat), SV.v (Value.int IntKind.i64 (↑(stN (nodesC l)) : Int))), ((32 : Nat), SV.o (0 : Nat)), ((11 : Nat), SV.p (1 : Nat) (0 : Nat)), ((8 : Nat), SV.v (Value.int IntKind.i64 (0 : Int)))] [HO.row (82 : Nat) (1 : Nat) (stN (nodesC l)) (mapv (stC (nodesC l))), HO.cells [SV.v (Value.int IntKind.i64 (0 : Int)), SV.v (Value.int IntKind.i64 (0 : Int)), SV.v (Value.int IntKind.i64 f), SV.v (Value.int IntKind.i64 a), SV.v (Value.int IntKind.i64 i)] (118 : Nat)])]
  := by kernel_rfl

theorem ckX (oa : Option Addr) (n cap : Nat) (f a i : Int) (l : List Nd) : (((xgo Try.prog X (bodyOf Try.f44) 69 K5 [] 60 [.lx (nodesC l), .t, .t] ((.nil)) [.at []] ⟨argsTm 0 [.slice oa n cap, .int .i64 f, .int .i64 a, .int .i64 i], []⟩ [] []).bind (ends Try.prog Try.f44.results.toList)).bind plainE) =
  some [EndP.mk [] [fun M => nodesC l = [] ∨ MCells (fun a => M a) oa (nodesC l),
    fun _ => nodesC l = nodesC (unNds (nodesC l)) ∧ List.length (unNds (nodesC l)) = n ∧ n ≤ (4398046511104 : Nat),
    fun _ => (!stB (nodesC l)) = true,
    fun _ => true = true] (Res.v (Value.int IntKind.i64 (110 : Int)))]
  := by kernel_rfl

theorem ckY (oa : Option Addr) (n cap : Nat) (f a i : Int) (l : List Nd) : (((xgo Try.prog X (bodyOf Try.f44) 69 K5 [] 60 [.lx (nodesC l), .f, .t] ((.nil)) [.at []] ⟨argsTm 0 [.slice oa n cap, .int .i64 f, .int .i64 a, .int .i64 i], []⟩ [] []).bind (ends Try.prog Try.f44.results.toList)).bind plainE) =
  some [EndP.mk [] [fun M => nodesC l = [] ∨ MCells (fun a => M a) oa (nodesC l),
    fun _ => nodesC l = nodesC (unNds (nodesC l)) ∧ List.length (unNds (nodesC l)) = n ∧ n ≤ (4398046511104 : Nat),
    fun _ => (!stB (nodesC l)) = false,
    fun _ => decide ((64 : Int) < (↑n : Int)) = true] (Res.v (Value.int IntKind.i64 (110 : Int)))]
  := by kernel_rfl

noncomputable def stCk (cs : List Value) (f a i : Int) (N k : Nat) : St := ⟨[(34, .v (.int .i64 (k : Int))), (33, .v (.int .i64 (N : Int))), (32, .o 0), (11, .p 1 0), (8, .v (.int .i64 0))], [.row 82 1 N (mapv cs), .cells [.v (.int .i64 0), .v (.int .i64 0), .v (.int .i64 f), .v (.int .i64 a), .v (.int .i64 i)] 118]⟩
theorem ck_loop {w : World} (all : List Nd) (hw : ∀ x ∈ all, x.v < top) (ho : ordN 0 all = true) (hb : all.length ≤ 4398046511104) (f a i : Int) (R : Res → Prop) :
    ∀ (l pre : List Nd), all = pre ++ l → R (.v (.int .i64 (if l.any (badN f a i) then 110 else 0))) →
    Ok Try.prog (bodyOf Try.f44) 69 (F0 w) w (bodyPost Try.prog Try.f44 fun E w' => ∃ v r, E = .returned v ∧ R r ∧ r.ok w w' v ∧ Below w.heap.size w w') (.rnd [0,0,1,0,1,1,1,1] (l.length + 2) :: [.blk 0, .at [1,1,1,1,1]]) (stCk (stC (nodesC all)) f a i all.length pre.length)
  | [], pre, he, hR => by
    have hl : pre.length = all.length := by rw [he]; simp
    refine Ok.rnd (ok_plain hm (F0.mono w) (fun _ h => h) 60 _ _ _ _ (cend all.length pre.length 0 f a i (stC (nodesC all))) ⟨fun _ => ⟨?_, hR⟩, trivial⟩)
    simp only [hold_cons, hold_nil, and_true]
    exact fun _ _ => decide_eq_false (by omega)
  | x :: l, pre, he, hR => by
    have hl : pre.length + (l.length + 1) = all.length := by rw [he]; simp
    have hlt : pre.length < all.length := by omega
    have hgx : all[pre.length] = x := by simp [he]
    have hget := stC_get hw ho pre.length hlt
    rw [hgx] at hget
    have hop := ordN_op all 0 ho x (by rw [he]; simp)
    have s1 : decide (((pre.length : Nat) : Int) < (all.length : Int)) = true := decide_eq_true (by omega)
    have s2 : (0 : Int) ≤ ((pre.length : Nat) : Int) ∧ ((pre.length : Nat) : Int) < (all.length : Int) := ⟨by omega, by omega⟩
    have s3 : 0 < (mapv (stC (nodesC all))).length := by
      rw [stC, unNds_nodesC all hw, if_pos ho, mapv_length, List.length_map]; omega
    have hlen : (pre ++ [x]).length = pre.length + 1 := by simp
    have next : R (.v (.int .i64 (if l.any (badN f a i) then 110 else 0))) → Ok Try.prog (bodyOf Try.f44) 69 (F0 w) w (bodyPost Try.prog Try.f44 fun E w' => ∃ v r, E = .returned v ∧ R r ∧ r.ok w w' v ∧ Below w.heap.size w w') (.rnd [0,0,1,0,1,1,1,1] (l.length + 2) :: [.blk 0, .at [1,1,1,1,1]]) (stCk (stC (nodesC all)) f a i all.length (pre.length + 1)) := fun h => by
      have := ck_loop (w := w) all hw ho hb f a i R l (pre ++ [x]) (by rw [he]; simp) h
      rw [hlen] at this
      exact this
    rw [List.any_cons] at hR
    by_cases hkc : x.op = 1
    · rw [stV_c hkc] at hget
      rw [badN, qryN, decide_eq_false (by omega), Bool.false_and, Bool.false_or] at hR
      refine Ok.rnd (xgo_trim hm (F0.mono w) finB 60 _ _ _ _ _ _ (ckc all.length pre.length (l.length + 1) f a i (stC (nodesC all)) (limb x.v 0 : Nat) (limb x.v 1 : Nat) (limb x.v 2 : Nat) (limb x.v 3 : Nat) _) (paidCons (fun _ => ⟨?_, ?_⟩) paidNil))
      · simp only [hold_cons, hold_nil, and_true]
        repeat' apply And.intro
        all_goals (intro _ _; first | exact trivial | exact s1 | exact s2 | exact s3 | exact hget | exact decide_eq_true (by omega) | exact decide_eq_false (by omega) | omega | exact ⟨by omega, by omega⟩)
      · simp only [wrap_inc pre.length (by omega)]
        exact Ok.weaken (st' := stCk (stC (nodesC all)) f a i all.length (pre.length + 1)) (F0.mono w) [0, 1] ⟨rfl, rfl, rfl, rfl, rfl, trivial⟩ ⟨ren_row _ _ _ _ _, rfl, trivial⟩ rfl ⟨by simp [stCk, wsAllT, ws], by simp only [stCk, wsAllH, HO.ws, and_true]; exact ⟨wsL_mapv _ _, by simp [wsL, ws]⟩⟩ (next hR)
    by_cases hkn : x.op = 5
    · rw [stV_n hkn] at hget
      rw [badN, qryN, decide_eq_false (by omega), Bool.false_and, Bool.false_or] at hR
      refine Ok.rnd (xgo_trim hm (F0.mono w) finB 60 _ _ _ _ _ _ (ckn all.length pre.length (l.length + 1) f a i (stC (nodesC all)) x.a _) (paidCons (fun _ => ⟨?_, ?_⟩) paidNil))
      · simp only [hold_cons, hold_nil, and_true]
        repeat' apply And.intro
        all_goals (intro _ _; first | exact trivial | exact s1 | exact s2 | exact s3 | exact hget | exact decide_eq_true (by omega) | exact decide_eq_false (by omega) | omega | exact ⟨by omega, by omega⟩)
      · simp only [wrap_inc pre.length (by omega)]
        exact Ok.weaken (st' := stCk (stC (nodesC all)) f a i all.length (pre.length + 1)) (F0.mono w) [0, 1] ⟨rfl, rfl, rfl, rfl, rfl, trivial⟩ ⟨ren_row _ _ _ _ _, rfl, trivial⟩ rfl ⟨by simp [stCk, wsAllT, ws], by simp only [stCk, wsAllH, HO.ws, and_true]; exact ⟨wsL_mapv _ _, by simp [wsL, ws]⟩⟩ (next hR)
    by_cases hka : x.op = 6
    · rw [stV_a hka] at hget
      rw [badN, qryN, decide_eq_false (by omega), Bool.false_and, Bool.false_or] at hR
      refine Ok.rnd (xgo_trim hm (F0.mono w) finB 60 _ _ _ _ _ _ (cka all.length pre.length (l.length + 1) f a i (stC (nodesC all)) x.a x.b _) (paidCons (fun _ => ⟨?_, ?_⟩) paidNil))
      · simp only [hold_cons, hold_nil, and_true]
        repeat' apply And.intro
        all_goals (intro _ _; first | exact trivial | exact s1 | exact s2 | exact s3 | exact hget | exact decide_eq_true (by omega) | exact decide_eq_false (by omega) | omega | exact ⟨by omega, by omega⟩)
      · simp only [wrap_inc pre.length (by omega)]
        exact Ok.weaken (st' := stCk (stC (nodesC all)) f a i all.length (pre.length + 1)) (F0.mono w) [0, 1] ⟨rfl, rfl, rfl, rfl, rfl, trivial⟩ ⟨ren_row _ _ _ _ _, rfl, trivial⟩ rfl ⟨by simp [stCk, wsAllT, ws], by simp only [stCk, wsAllH, HO.ws, and_true]; exact ⟨wsL_mapv _ _, by simp [wsL, ws]⟩⟩ (next hR)
    by_cases hkm : x.op = 7
    · rw [stV_m hkm] at hget
      rw [badN, qryN, decide_eq_false (by omega), Bool.false_and, Bool.false_or] at hR
      refine Ok.rnd (xgo_trim hm (F0.mono w) finB 60 _ _ _ _ _ _ (ckm all.length pre.length (l.length + 1) f a i (stC (nodesC all)) x.a x.b _) (paidCons (fun _ => ⟨?_, ?_⟩) paidNil))
      · simp only [hold_cons, hold_nil, and_true]
        repeat' apply And.intro
        all_goals (intro _ _; first | exact trivial | exact s1 | exact s2 | exact s3 | exact hget | exact decide_eq_true (by omega) | exact decide_eq_false (by omega) | omega | exact ⟨by omega, by omega⟩)
      · simp only [wrap_inc pre.length (by omega)]
        exact Ok.weaken (st' := stCk (stC (nodesC all)) f a i all.length (pre.length + 1)) (F0.mono w) [0, 1] ⟨rfl, rfl, rfl, rfl, rfl, trivial⟩ ⟨ren_row _ _ _ _ _, rfl, trivial⟩ rfl ⟨by simp [stCk, wsAllT, ws], by simp only [stCk, wsAllH, HO.ws, and_true]; exact ⟨wsL_mapv _ _, by simp [wsL, ws]⟩⟩ (next hR)
    by_cases hks : x.op = 8
    · rw [stV_s hks] at hget
      rw [badN, qryN, decide_eq_false (by omega), Bool.false_and, Bool.false_or] at hR
      refine Ok.rnd (xgo_trim hm (F0.mono w) finB 60 _ _ _ _ _ _ (cks all.length pre.length (l.length + 1) f a i (stC (nodesC all)) x.a (limb x.v 0 : Nat) (limb x.v 1 : Nat) (limb x.v 2 : Nat) (limb x.v 3 : Nat) _) (paidCons (fun _ => ⟨?_, ?_⟩) paidNil))
      · simp only [hold_cons, hold_nil, and_true]
        repeat' apply And.intro
        all_goals (intro _ _; first | exact trivial | exact s1 | exact s2 | exact s3 | exact hget | exact decide_eq_true (by omega) | exact decide_eq_false (by omega) | omega | exact ⟨by omega, by omega⟩)
      · simp only [wrap_inc pre.length (by omega)]
        exact Ok.weaken (st' := stCk (stC (nodesC all)) f a i all.length (pre.length + 1)) (F0.mono w) [0, 1] ⟨rfl, rfl, rfl, rfl, rfl, trivial⟩ ⟨ren_row _ _ _ _ _, rfl, trivial⟩ rfl ⟨by simp [stCk, wsAllT, ws], by simp only [stCk, wsAllH, HO.ws, and_true]; exact ⟨wsL_mapv _ _, by simp [wsL, ws]⟩⟩ (next hR)
    by_cases hk2 : x.op = 2
    · rw [stV_q (by omega), hk2] at hget
      have hbad : badN f a i x = decide (x.a < 0 ∨ f ≤ x.a ∨ x.b < -3 ∨ 3 < x.b) := by
        rw [badN, qryN, decide_eq_true (by omega), Bool.true_and, mostN, hk2]
        rfl
      rw [hbad] at hR
      by_cases e1 : x.a < 0 ∨ f ≤ x.a ∨ x.b < -3 ∨ 3 < x.b
      · rw [decide_eq_true e1, Bool.true_or, if_pos rfl] at hR
        by_cases e2 : x.a < 0
        · refine Ok.rnd (ok_plain hm (F0.mono w) (fun _ h => h) 60 _ _ _ _ (ce2a all.length pre.length (l.length + 1) f a i (stC (nodesC all)) x.a x.b) ⟨fun _ => ⟨?_, hR⟩, trivial⟩)
          simp only [hold_cons, hold_nil, and_true]
          repeat' apply And.intro
          all_goals (intro _ _; first | exact trivial | exact s1 | exact s2 | exact s3 | exact hget | exact decide_eq_true (by omega) | exact decide_eq_false (by omega) | omega | exact ⟨by omega, by omega⟩)
        by_cases e3 : f ≤ x.a
        · refine Ok.rnd (ok_plain hm (F0.mono w) (fun _ h => h) 60 _ _ _ _ (ce2b all.length pre.length (l.length + 1) f a i (stC (nodesC all)) x.a x.b) ⟨fun _ => ⟨?_, hR⟩, trivial⟩)
          simp only [hold_cons, hold_nil, and_true]
          repeat' apply And.intro
          all_goals (intro _ _; first | exact trivial | exact s1 | exact s2 | exact s3 | exact hget | exact decide_eq_true (by omega) | exact decide_eq_false (by omega) | omega | exact ⟨by omega, by omega⟩)
        by_cases e4 : x.b < -3
        · refine Ok.rnd (ok_plain hm (F0.mono w) (fun _ h => h) 60 _ _ _ _ (ce2c all.length pre.length (l.length + 1) f a i (stC (nodesC all)) x.a x.b) ⟨fun _ => ⟨?_, hR⟩, trivial⟩)
          simp only [hold_cons, hold_nil, and_true]
          repeat' apply And.intro
          all_goals (intro _ _; first | exact trivial | exact s1 | exact s2 | exact s3 | exact hget | exact decide_eq_true (by omega) | exact decide_eq_false (by omega) | omega | exact ⟨by omega, by omega⟩)
        refine Ok.rnd (ok_plain hm (F0.mono w) (fun _ h => h) 60 _ _ _ _ (ce2d all.length pre.length (l.length + 1) f a i (stC (nodesC all)) x.a x.b) ⟨fun _ => ⟨?_, hR⟩, trivial⟩)
        simp only [hold_cons, hold_nil, and_true]
        repeat' apply And.intro
        all_goals (intro _ _; first | exact trivial | exact s1 | exact s2 | exact s3 | exact hget | exact decide_eq_true (by omega) | exact decide_eq_false (by omega) | omega | exact ⟨by omega, by omega⟩)
      · rw [decide_eq_false e1, Bool.false_or] at hR
        refine Ok.rnd (xgo_trim hm (F0.mono w) finB 60 _ _ _ _ _ _ (ck2 all.length pre.length (l.length + 1) f a i (stC (nodesC all)) x.a x.b _) (paidCons (fun _ => ⟨?_, ?_⟩) paidNil))
        · simp only [hold_cons, hold_nil, and_true]
          repeat' apply And.intro
          all_goals (intro _ _; first | exact trivial | exact s1 | exact s2 | exact s3 | exact hget | exact decide_eq_true (by omega) | exact decide_eq_false (by omega) | omega | exact ⟨by omega, by omega⟩)
        · simp only [wrap_inc pre.length (by omega)]
          exact Ok.weaken (st' := stCk (stC (nodesC all)) f a i all.length (pre.length + 1)) (F0.mono w) [0, 1] ⟨rfl, rfl, rfl, rfl, rfl, trivial⟩ ⟨ren_row _ _ _ _ _, rfl, trivial⟩ rfl ⟨by simp [stCk, wsAllT, ws], by simp only [stCk, wsAllH, HO.ws, and_true]; exact ⟨wsL_mapv _ _, by simp [wsL, ws]⟩⟩ (next hR)
    by_cases hk3 : x.op = 3
    · rw [stV_q (by omega), hk3] at hget
      have hbad : badN f a i x = decide (x.a < 0 ∨ a ≤ x.a ∨ x.b < -3 ∨ 3 < x.b) := by
        rw [badN, qryN, decide_eq_true (by omega), Bool.true_and, mostN, hk3]
        rfl
      rw [hbad] at hR
      by_cases e1 : x.a < 0 ∨ a ≤ x.a ∨ x.b < -3 ∨ 3 < x.b
      · rw [decide_eq_true e1, Bool.true_or, if_pos rfl] at hR
        by_cases e2 : x.a < 0
        · refine Ok.rnd (ok_plain hm (F0.mono w) (fun _ h => h) 60 _ _ _ _ (ce3a all.length pre.length (l.length + 1) f a i (stC (nodesC all)) x.a x.b) ⟨fun _ => ⟨?_, hR⟩, trivial⟩)
          simp only [hold_cons, hold_nil, and_true]
          repeat' apply And.intro
          all_goals (intro _ _; first | exact trivial | exact s1 | exact s2 | exact s3 | exact hget | exact decide_eq_true (by omega) | exact decide_eq_false (by omega) | omega | exact ⟨by omega, by omega⟩)
        by_cases e3 : a ≤ x.a
        · refine Ok.rnd (ok_plain hm (F0.mono w) (fun _ h => h) 60 _ _ _ _ (ce3b all.length pre.length (l.length + 1) f a i (stC (nodesC all)) x.a x.b) ⟨fun _ => ⟨?_, hR⟩, trivial⟩)
          simp only [hold_cons, hold_nil, and_true]
          repeat' apply And.intro
          all_goals (intro _ _; first | exact trivial | exact s1 | exact s2 | exact s3 | exact hget | exact decide_eq_true (by omega) | exact decide_eq_false (by omega) | omega | exact ⟨by omega, by omega⟩)
        by_cases e4 : x.b < -3
        · refine Ok.rnd (ok_plain hm (F0.mono w) (fun _ h => h) 60 _ _ _ _ (ce3c all.length pre.length (l.length + 1) f a i (stC (nodesC all)) x.a x.b) ⟨fun _ => ⟨?_, hR⟩, trivial⟩)
          simp only [hold_cons, hold_nil, and_true]
          repeat' apply And.intro
          all_goals (intro _ _; first | exact trivial | exact s1 | exact s2 | exact s3 | exact hget | exact decide_eq_true (by omega) | exact decide_eq_false (by omega) | omega | exact ⟨by omega, by omega⟩)
        refine Ok.rnd (ok_plain hm (F0.mono w) (fun _ h => h) 60 _ _ _ _ (ce3d all.length pre.length (l.length + 1) f a i (stC (nodesC all)) x.a x.b) ⟨fun _ => ⟨?_, hR⟩, trivial⟩)
        simp only [hold_cons, hold_nil, and_true]
        repeat' apply And.intro
        all_goals (intro _ _; first | exact trivial | exact s1 | exact s2 | exact s3 | exact hget | exact decide_eq_true (by omega) | exact decide_eq_false (by omega) | omega | exact ⟨by omega, by omega⟩)
      · rw [decide_eq_false e1, Bool.false_or] at hR
        refine Ok.rnd (xgo_trim hm (F0.mono w) finB 60 _ _ _ _ _ _ (ck3 all.length pre.length (l.length + 1) f a i (stC (nodesC all)) x.a x.b _) (paidCons (fun _ => ⟨?_, ?_⟩) paidNil))
        · simp only [hold_cons, hold_nil, and_true]
          repeat' apply And.intro
          all_goals (intro _ _; first | exact trivial | exact s1 | exact s2 | exact s3 | exact hget | exact decide_eq_true (by omega) | exact decide_eq_false (by omega) | omega | exact ⟨by omega, by omega⟩)
        · simp only [wrap_inc pre.length (by omega)]
          exact Ok.weaken (st' := stCk (stC (nodesC all)) f a i all.length (pre.length + 1)) (F0.mono w) [0, 1] ⟨rfl, rfl, rfl, rfl, rfl, trivial⟩ ⟨ren_row _ _ _ _ _, rfl, trivial⟩ rfl ⟨by simp [stCk, wsAllT, ws], by simp only [stCk, wsAllH, HO.ws, and_true]; exact ⟨wsL_mapv _ _, by simp [wsL, ws]⟩⟩ (next hR)
    by_cases hk4 : x.op = 4
    · rw [stV_q (by omega), hk4] at hget
      have hbad : badN f a i x = decide (x.a < 0 ∨ i ≤ x.a ∨ x.b < -3 ∨ 3 < x.b) := by
        rw [badN, qryN, decide_eq_true (by omega), Bool.true_and, mostN, hk4]
        rfl
      rw [hbad] at hR
      by_cases e1 : x.a < 0 ∨ i ≤ x.a ∨ x.b < -3 ∨ 3 < x.b
      · rw [decide_eq_true e1, Bool.true_or, if_pos rfl] at hR
        by_cases e2 : x.a < 0
        · refine Ok.rnd (ok_plain hm (F0.mono w) (fun _ h => h) 60 _ _ _ _ (ce4a all.length pre.length (l.length + 1) f a i (stC (nodesC all)) x.a x.b) ⟨fun _ => ⟨?_, hR⟩, trivial⟩)
          simp only [hold_cons, hold_nil, and_true]
          repeat' apply And.intro
          all_goals (intro _ _; first | exact trivial | exact s1 | exact s2 | exact s3 | exact hget | exact decide_eq_true (by omega) | exact decide_eq_false (by omega) | omega | exact ⟨by omega, by omega⟩)
        by_cases e3 : i ≤ x.a
        · refine Ok.rnd (ok_plain hm (F0.mono w) (fun _ h => h) 60 _ _ _ _ (ce4b all.length pre.length (l.length + 1) f a i (stC (nodesC all)) x.a x.b) ⟨fun _ => ⟨?_, hR⟩, trivial⟩)
          simp only [hold_cons, hold_nil, and_true]
          repeat' apply And.intro
          all_goals (intro _ _; first | exact trivial | exact s1 | exact s2 | exact s3 | exact hget | exact decide_eq_true (by omega) | exact decide_eq_false (by omega) | omega | exact ⟨by omega, by omega⟩)
        by_cases e4 : x.b < -3
        · refine Ok.rnd (ok_plain hm (F0.mono w) (fun _ h => h) 60 _ _ _ _ (ce4c all.length pre.length (l.length + 1) f a i (stC (nodesC all)) x.a x.b) ⟨fun _ => ⟨?_, hR⟩, trivial⟩)
          simp only [hold_cons, hold_nil, and_true]
          repeat' apply And.intro
          all_goals (intro _ _; first | exact trivial | exact s1 | exact s2 | exact s3 | exact hget | exact decide_eq_true (by omega) | exact decide_eq_false (by omega) | omega | exact ⟨by omega, by omega⟩)
        refine Ok.rnd (ok_plain hm (F0.mono w) (fun _ h => h) 60 _ _ _ _ (ce4d all.length pre.length (l.length + 1) f a i (stC (nodesC all)) x.a x.b) ⟨fun _ => ⟨?_, hR⟩, trivial⟩)
        simp only [hold_cons, hold_nil, and_true]
        repeat' apply And.intro
        all_goals (intro _ _; first | exact trivial | exact s1 | exact s2 | exact s3 | exact hget | exact decide_eq_true (by omega) | exact decide_eq_false (by omega) | omega | exact ⟨by omega, by omega⟩)
      · rw [decide_eq_false e1, Bool.false_or] at hR
        refine Ok.rnd (xgo_trim hm (F0.mono w) finB 60 _ _ _ _ _ _ (ck4 all.length pre.length (l.length + 1) f a i (stC (nodesC all)) x.a x.b _) (paidCons (fun _ => ⟨?_, ?_⟩) paidNil))
        · simp only [hold_cons, hold_nil, and_true]
          repeat' apply And.intro
          all_goals (intro _ _; first | exact trivial | exact s1 | exact s2 | exact s3 | exact hget | exact decide_eq_true (by omega) | exact decide_eq_false (by omega) | omega | exact ⟨by omega, by omega⟩)
        · simp only [wrap_inc pre.length (by omega)]
          exact Ok.weaken (st' := stCk (stC (nodesC all)) f a i all.length (pre.length + 1)) (F0.mono w) [0, 1] ⟨rfl, rfl, rfl, rfl, rfl, trivial⟩ ⟨ren_row _ _ _ _ _, rfl, trivial⟩ rfl ⟨by simp [stCk, wsAllT, ws], by simp only [stCk, wsAllH, HO.ws, and_true]; exact ⟨wsL_mapv _ _, by simp [wsL, ws]⟩⟩ (next hR)
    exfalso; omega
theorem check_ok (oa : Option Addr) (n cap : Nat) (f a i : Int) (all : List Nd) (hw : ∀ x ∈ all, x.v < top) (hn : all.length = n) (hb : n ≤ 4398046511104) (w : World) (ha : nodesC all = [] ∨ MCells (wmem w) oa (nodesC all)) :
    Calls Try.prog 44 [.slice oa n cap, .int .i64 f, .int .i64 a, .int .i64 i].toArray w (fun E w' => ∃ v, E = .returned v ∧ Res.ok w w' (.v (.int .i64 (chkN all f a i))) v ∧ Below w.heap.size w w') := by
  have hun := unNds_nodesC all hw
  have hmem : ∀ M, F0 w M → nodesC all = [] ∨ MCells (fun a => M a) oa (nodesC all) := fun _ hM => ha.imp id fun h => h.mono hM
  have hst : stB (nodesC all) = ordN 0 all := by rw [stB, hidQ_eq, hun]
  have hside : nodesC all = nodesC (unNds (nodesC all)) ∧ (unNds (nodesC all)).length = n ∧ n ≤ 4398046511104 := by rw [hun]; exact ⟨rfl, hn, hb⟩
  cases ho : ordN 0 all with
  | false =>
    rw [chkN, if_pos (.inr (.inl ho))]
    refine con_end (calls_plain hm Try.func44 (by kernel_rfl) rfl rfl 60 _ _ (ckX oa n cap f a i all) ⟨fun _ => ⟨?_, rfl⟩, trivial⟩)
    simp only [hold_cons, hold_nil, and_true, hst, ho]
    exact ⟨hmem, fun _ _ => hside, fun _ _ => rfl, fun _ _ => trivial⟩
  | true =>
    by_cases h64 : 64 < all.length
    · rw [chkN, if_pos (.inl h64)]
      refine con_end (calls_plain hm Try.func44 (by kernel_rfl) rfl rfl 60 _ _ (ckY oa n cap f a i all) ⟨fun _ => ⟨?_, rfl⟩, trivial⟩)
      simp only [hold_cons, hold_nil, and_true, hst, ho]
      exact ⟨hmem, fun _ _ => hside, fun _ _ => rfl, fun _ _ => decide_eq_true (by omega)⟩
    · have hres : chkN all f a i = if all.any (badN f a i) then 110 else 0 := by
        rw [chkN]
        cases all.any (badN f a i) with
        | true => rw [if_pos (.inr (.inr rfl)), if_pos rfl]
        | false => rw [if_neg (by rw [ho]; simp; omega), if_neg (by simp)]
      rw [hres]
      refine con_end (calls_of_ok (B := bodyOf Try.f44) (n := 69) Try.func44 (by kernel_rfl) rfl rfl (F := F0 w) (fun _ _ h => h) ?_)
      refine xgo_trim hm (F0.mono w) finB 60 _ _ _ _ _ _ (ckS oa n cap f a i all) (paidCons (fun _ => ⟨?_, ?_⟩) paidNil)
      · simp only [hold_cons, hold_nil, and_true, hst, ho]
        exact ⟨hmem, fun _ _ => hside, fun _ _ => rfl, fun _ _ => decide_eq_false (by omega), fun _ _ => by omega⟩
      · have hN : stN (nodesC all) = all.length := by rw [stN, hide_eq, hun, if_pos ho]
        refine ok_mono (st := stCk (stC (nodesC all)) f a i all.length 0) (by rw [← hN]; rfl) (Ok.loop (all.length + 2) (by kernel_rfl) (ck_loop all hw ho (by omega) f a i (fun r => r = .v (.int .i64 (if all.any (badN f a i) then 110 else 0))) all [] rfl rfl))
noncomputable def gCheck : List RV → Option (Res × Prop)
  | [.r n cs, .v (.int .i64 f), .v (.int .i64 a), .v (.int .i64 i)] => some (.v (.int .i64 (chkV cs f a i)), cs = nodesC (unNds cs) ∧ (unNds cs).length = n ∧ n ≤ 4398046511104 ∧ ∀ x ∈ unNds cs, x.v < top)
  | _ => none
theorem gCheck_ok (rvs : List RV) (r : Res) (p : Prop) (vs : List Value) (w : World) (hg : gCheck rvs = some (r, p)) (hp : p) (hv : RVs (wmem w) rvs vs) : Calls Try.prog 44 vs.toArray w (fun E w' => ∃ v, E = .returned v ∧ r.ok w w' v ∧ Below w.heap.size w w') := by
  unfold gCheck at hg
  split at hg
  · simp only [Option.some.injEq, Prod.mk.injEq] at hg
    obtain ⟨rfl, rfl⟩ := hg
    obtain ⟨hc, hn, hb, hw⟩ := hp
    match vs, hv with
    | [x, y, z, u], ⟨⟨oa, cap, h1, h2⟩, h3, h4, h5, _⟩ =>
      rw [h1, h3, h4, h5, chkV, hidZ_eq]
      rw [hc] at h2
      exact check_ok oa _ cap _ _ _ _ hw hn hb w h2
  · cases hg
noncomputable def K6 : Con Try.prog := K5.add 44 gCheck gCheck_ok
end Go.Proofs.Ytpghmnpbfaichaa
