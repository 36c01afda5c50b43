/- The values of nodes. -/
import Derived.Test.YtpghmnpbfaichaaF6
namespace Go.Pl
open Go.Sx
noncomputable def ec (n : Nat) : List SV := [.v (.int .u64 (limb n 0 : Nat)), .v (.int .u64 (limb n 1 : Nat)), .v (.int .u64 (limb n 2 : Nat)), .v (.int .u64 (limb n 3 : Nat))]
theorem ec_mapv (n : Nat) : ec n = mapv (elC n) := rfl
noncomputable def valD (s : Int) (qs : List Qy) (vs out : List Nat) (x : Nd) : Option Nat :=
  if x.op = 1 then some x.v else if x.op = 5 then some (eNeg s (out.getD x.a.toNat 0)) else if x.op = 6 then some (eAdd s (out.getD x.a.toNat 0) (out.getD x.b.toNat 0)) else if x.op = 7 then some (eMul s (out.getD x.a.toNat 0) (out.getD x.b.toNat 0)) else if x.op = 8 then some (eMul s x.v (out.getD x.a.toNat 0))
  else if idxF (sameQ x.op x.a x.b) 0 qs < 0 then none else some (vs.getD (idxF (sameQ x.op x.a x.b) 0 qs).toNat 0)
noncomputable def valsN (s : Int) (qs : List Qy) (vs : List Nat) : List Nat → List Nd → Option (List Nat)
  | out, [] => some out
  | out, x :: r => match valD s qs vs out x with
    | none => none
    | some v => valsN s qs vs (out ++ [eAdd s v 0]) r
theorem valsN_some {s : Int} {qs : List Qy} {vs out : List Nat} {x : Nd} {r : List Nd} {v : Nat} (h : valD s qs vs out x = some v) : valsN s qs vs out (x :: r) = valsN s qs vs (out ++ [eAdd s v 0]) r := by rw [valsN, h]
theorem valsN_none {s : Int} {qs : List Qy} {vs out : List Nat} {x : Nd} {r : List Nd} (h : valD s qs vs out x = none) : valsN s qs vs out (x :: r) = none := by rw [valsN, h]
noncomputable def vlR (s : Int) (qs : List Qy) (vs : List Nat) (l : List Nd) : List Nat × Int :=
  if ordN 0 l = false then ([], 110) else if vs.length ≠ qs.length then ([], 50) else match valsN s qs vs [] l with
    | none => ([], 50)
    | some out => (out, 0)
theorem p_lt_top (p : Nat) (h : p < 16521218) : p < top := by simp only [top]; omega
theorem pS_lt (s : Int) : pS s < 16521218 := by
  rw [pS, hide_eq]; split <;> omega
theorem pS_pos (s : Int) : 0 < pS s := by
  rw [pS, hide_eq]; split <;> omega
theorem eAdd_lt (s : Int) (a b : Nat) : eAdd s a b < top := by
  rw [eAdd, hide_eq]
  have := fR_lt (pS s) (a + b) (pS_pos s)
  have := pS_lt s
  exact p_lt_top _ (by omega)
theorem eMul_lt (s : Int) (a b : Nat) : eMul s a b < top := by
  rw [eMul, hide_eq]
  have := fR_lt (pS s) (a * b) (pS_pos s)
  have := pS_lt s
  exact p_lt_top _ (by omega)
theorem eNeg_lt (s : Int) (a : Nat) : eNeg s a < top := by
  rw [eNeg, hide_eq, fN]
  have := fR_lt (pS s) (pS s - fR (pS s) a) (pS_pos s)
  have := pS_lt s
  exact p_lt_top _ (by omega)
noncomputable def vlL (s : Int) (cs qs es : List Value) : List Value := elsC (vlR s (unQs qs) (unEs es) (unNds cs)).1
noncomputable def vlN (s : Int) (cs qs es : List Value) : Nat := hide (vlR s (unQs qs) (unEs es) (unNds cs)).1.length
noncomputable def vlE (s : Int) (cs qs es : List Value) : Int := hidZ (vlR s (unQs qs) (unEs es) (unNds cs)).2
theorem idxF_lt {α : Type} (p : α → Bool) : ∀ (l : List α) (k : Nat), idxF p k l < ((k + l.length : Nat) : Int)
  | [], k => by simp only [idxF]; omega
  | x :: r, k => by
    rw [idxF]
    split
    · simp; omega
    · have := idxF_lt p r (k + 1)
      rw [List.length_cons]
      omega
theorem valD_c (s : Int) (qs : List Qy) (vs out : List Nat) {x : Nd} (h : x.op = 1) : valD s qs vs out x = some x.v := by
  unfold valD
  rw [if_pos h]
theorem valD_n (s : Int) (qs : List Qy) (vs out : List Nat) {x : Nd} (h : x.op = 5) : valD s qs vs out x = some (eNeg s (out.getD x.a.toNat 0)) := by
  unfold valD
  rw [if_neg (by omega), if_pos h]
theorem valD_a (s : Int) (qs : List Qy) (vs out : List Nat) {x : Nd} (h : x.op = 6) : valD s qs vs out x = some (eAdd s (out.getD x.a.toNat 0) (out.getD x.b.toNat 0)) := by
  unfold valD
  rw [if_neg (by omega), if_neg (by omega), if_pos h]
theorem valD_m (s : Int) (qs : List Qy) (vs out : List Nat) {x : Nd} (h : x.op = 7) : valD s qs vs out x = some (eMul s (out.getD x.a.toNat 0) (out.getD x.b.toNat 0)) := by
  unfold valD
  rw [if_neg (by omega), if_neg (by omega), if_neg (by omega), if_pos h]
theorem valD_s (s : Int) (qs : List Qy) (vs out : List Nat) {x : Nd} (h : x.op = 8) : valD s qs vs out x = some (eMul s x.v (out.getD x.a.toNat 0)) := by
  unfold valD
  rw [if_neg (by omega), if_neg (by omega), if_neg (by omega), if_neg (by omega), if_pos h]
theorem valD_q (s : Int) (qs : List Qy) (vs out : List Nat) {x : Nd} (h : 2 ≤ x.op ∧ x.op ≤ 4) : valD s qs vs out x = if idxF (sameQ x.op x.a x.b) 0 qs < 0 then none else some (vs.getD (idxF (sameQ x.op x.a x.b) 0 qs).toNat 0) := by
  unfold valD
  rw [if_neg (by omega), if_neg (by omega), if_neg (by omega), if_neg (by omega), if_neg (by omega)]
end Go.Pl
namespace Go.Proofs.Ytpghmnpbfaichaa
open Go.Sx Go.Pl Go.RowKit
set_option linter.unusedVariables false
theorem vlS (s : Int) (oa oq ov : Option Addr) (n cap nq cq nv cv : Nat) (l : List Nd) : ((xgo Try.prog X (bodyOf Try.f33) 85 L8 [] 80 [.f, .lx (nodesC l), .f, .f] ((.nil)) [.at []] ⟨argsTm 0 [.int .i64 s, .slice oa n cap, .slice oq nq cq, .slice ov nv cv], []⟩ [] []).map (trims [49, 48, 47, 14, 9, 8, 3, 2, 0])) =
  some [Leaf2.mk [] [fun _ => s = (0 : Int) ∨ s = (1 : Int),
    fun _ => (0 : Nat) + (4 : Nat) ≤ (4 : Nat),
    fun _ => false = false, fun M => nodesC l = [] ∨ MCells (fun a => M a) oa (nodesC l),
    fun _ => nodesC l = nodesC (unNds (nodesC l)) ∧ List.length (unNds (nodesC l)) = n ∧ n ≤ (4398046511104 : Nat),
    fun _ => (!stB (nodesC l)) = false,
    fun _ => (!(↑nv : Int) == (↑nq : Int)) = false,
    fun _ => (0 : Int) ≤ (0 : Int) ∧ (0 : Int) ≤ (↑n : Int) ∧ (32 : Int) * (↑n : Int) ≤ (281474976710656 : Int) ∧ (↑n : Int) ≤ (9223372036854775807 : Int),
    fun _ => true = true ∧ (0 : Nat) < (4 : Nat)] [It.at [(0 : Nat), (1 : Nat), (0 : Nat), (1 : Nat), (1 : Nat), (1 : Nat), (1 : Nat), (1 : Nat)], It.blk (1 : Nat), It.at [(1 : Nat), (1 : Nat), (1 : Nat), (1 : Nat), (1 : Nat), (1 : Nat)]] (St.mk [((49 : Nat), SV.v (Value.int IntKind.i64 (0 : Int))), ((48 : Nat), SV.v (Value.int IntKind.i64 (↑(stN (nodesC l)) : Int))), ((47 : Nat), SV.o (1 : Nat)), ((14 : Nat), SV.o (2 : Nat)), ((9 : Nat), SV.v (Value.int IntKind.i64 (0 : Int))), ((8 : Nat), SV.v (Value.slice none (0 : Nat) (0 : Nat))), ((3 : Nat), SV.v (Value.slice ov nv cv)), ((2 : Nat), SV.v (Value.slice oq nq cq)), ((0 : Nat), SV.v (Value.int IntKind.i64 s))] [HO.cells (ec (pS s)) (41 : Nat), HO.row (82 : Nat) (1 : Nat) (stN (nodesC l)) (mapv (stC (nodesC l))), HO.row (41 : Nat) (4 : Nat) (0 : Nat) []])]
  := by kernel_rfl

theorem vlX (s : Int) (oa oq ov : Option Addr) (n cap nq cq nv cv : Nat) (l : List Nd) : (((xgo Try.prog X (bodyOf Try.f33) 85 L8 [] 80 [.f, .lx (nodesC l), .t] ((.nil)) [.at []] ⟨argsTm 0 [.int .i64 s, .slice oa n cap, .slice oq nq cq, .slice ov nv cv], []⟩ [] []).bind (ends Try.prog Try.f33.results.toList)).bind plainE) =
  some [EndP.mk [] [fun _ => s = (0 : Int) ∨ s = (1 : Int),
    fun _ => (0 : Nat) + (4 : Nat) ≤ (4 : Nat),
    fun _ => false = false, fun M => nodesC l = [] ∨ MCells (fun a => M a) oa (nodesC l),
    fun _ => nodesC l = nodesC (unNds (nodesC l)) ∧ List.length (unNds (nodesC l)) = n ∧ n ≤ (4398046511104 : Nat),
    fun _ => (!stB (nodesC l)) = true] (Res.v (Value.tuple (Array.mk [Value.slice none (0 : Nat) (0 : Nat), Value.int IntKind.i64 (110 : Int)])))]
  := by kernel_rfl

theorem vlY (s : Int) (oa oq ov : Option Addr) (n cap nq cq nv cv : Nat) (l : List Nd) : (((xgo Try.prog X (bodyOf Try.f33) 85 L8 [] 80 [.f, .lx (nodesC l), .f, .t] ((.nil)) [.at []] ⟨argsTm 0 [.int .i64 s, .slice oa n cap, .slice oq nq cq, .slice ov nv cv], []⟩ [] []).bind (ends Try.prog Try.f33.results.toList)).bind plainE) =
  some [EndP.mk [] [fun _ => s = (0 : Int) ∨ s = (1 : Int),
    fun _ => (0 : Nat) + (4 : Nat) ≤ (4 : Nat),
    fun _ => false = false, fun M => nodesC l = [] ∨ MCells (fun a => M a) oa (nodesC l),
    fun _ => nodesC l = nodesC (unNds (nodesC l)) ∧ List.length (unNds (nodesC l)) = n ∧ n ≤ (4398046511104 : Nat),
    fun _ => (!stB (nodesC l)) = false,
    fun _ => (!(↑nv : Int) == (↑nq : Int)) = true] (Res.v (Value.tuple (Array.mk [Value.slice none (0 : Nat) (0 : Nat), Value.int IntKind.i64 (50 : Int)])))]
  := by kernel_rfl

theorem vl1c (s : Int) (ov oq : Option Addr) (N k M nv cv nq cq : Nat) (cs ds : List Value) (v : Nat) (kt : List It) : ((xgo Try.prog X (bodyOf Try.f33) 85 L8 [] 80 [.t, .lo 0 (.v (.iface 102 (.agg #[.int .u64 (limb v 0 : Nat), .int .u64 (limb v 1 : Nat), .int .u64 (limb v 2 : Nat), .int .u64 (limb v 3 : Nat)]))), .t] ((.nil)) (.at [0,0,1,0,1,1,1,1,1] :: .rnd [0,0,1,0,1,1,1,1,1] (M + 1) :: kt) ⟨[(49, .v (.int .i64 (k : Int))), (48, .v (.int .i64 (N : Int))), (47, .o 0), (14, .o 1), (9, .v (.int .i64 0)), (8, .v (.slice none 0 0)), (3, .v (.slice ov nv cv)), (2, .v (.slice oq nq cq)), (0, .v (.int .i64 s))], [.row 82 1 N (mapv cs), .row 41 4 k (mapv ds)]⟩ [] []).map (trims [49, 48, 47, 14, 9, 8, 3, 2, 0])) =
  some [Leaf2.mk [] [fun _ => decide ((↑k : Int) < (↑N : Int)) = true,
    fun _ => (0 : Int) ≤ (↑k : Int) ∧ (↑k : Int) < (↑N : Int),
    fun _ => (0 : Nat) < List.length (mapv cs),
    fun _ => (mapv cs)[Int.toNat (↑k : Int) * (1 : Nat)]? = some (SV.v (Value.iface (102 : Nat) (el v))),
    fun _ => true = true,
    fun _ => (0 : Nat) + (4 : Nat) ≤ (4 : Nat),
    fun _ => (0 : Nat) + (4 : Nat) ≤ (4 : Nat),
    fun _ => (s = (0 : Int) ∨ s = (1 : Int)) ∧ el v = el (elN v) ∧ Value.agg (Array.mk [Value.int IntKind.u64 (0 : Int), Value.int IntKind.u64 (0 : Int), Value.int IntKind.u64 (0 : Int), Value.int IntKind.u64 (0 : Int)]) = el (0 : Nat) ∧ elN v < top ∧ (0 : Nat) < top,
    fun _ => (k + (1 : Nat)) * (32 : Nat) ≤ (140737488355328 : Nat) ∧ k + (1 : Nat) ≤ (140737488355328 : Nat)] (It.rnd [(0 : Nat), (0 : Nat), (1 : Nat), (0 : Nat), (1 : Nat), (1 : Nat), (1 : Nat), (1 : Nat), (1 : Nat)] (M + (1 : Nat)) :: kt) (St.mk [((49 : Nat), SV.v (Value.int IntKind.i64 (IntKind.wrap IntKind.i64 ((↑k : Int) + (1 : Int))))), ((48 : Nat), SV.v (Value.int IntKind.i64 (↑N : Int))), ((47 : Nat), SV.o (0 : Nat)), ((14 : Nat), SV.o (5 : Nat)), ((9 : Nat), SV.v (Value.int IntKind.i64 (0 : Int))), ((8 : Nat), SV.v (Value.slice none (0 : Nat) (0 : Nat))), ((3 : Nat), SV.v (Value.slice ov nv cv)), ((2 : Nat), SV.v (Value.slice oq nq cq)), ((0 : Nat), SV.v (Value.int IntKind.i64 s))] [HO.row (82 : Nat) (1 : Nat) N (mapv cs), HO.gone, HO.cells (ec v) (41 : Nat), HO.cells (ec v) (102 : Nat), HO.row (41 : Nat) (4 : Nat) (1 : Nat) (ec (eAdd s (elN v) (0 : Nat))), HO.row (41 : Nat) (4 : Nat) (k + (1 : Nat)) (mapv ds ++ ec (eAdd s (elN v) (0 : Nat)))])]
  := by kernel_rfl

theorem vl1n (s : Int) (ov oq : Option Addr) (N k M nv cv nq cq : Nat) (cs ds : List Value) (x : Int) (kt : List It) : ((xgo Try.prog X (bodyOf Try.f33) 85 L8 [] 80 [.t, .lo 0 (.v (.iface 129 (.agg #[.int .i64 x]))), .f, .f] ((.nil)) (.at [0,0,1,0,1,1,1,1,1] :: .rnd [0,0,1,0,1,1,1,1,1] (M + 1) :: kt) ⟨[(49, .v (.int .i64 (k : Int))), (48, .v (.int .i64 (N : Int))), (47, .o 0), (14, .o 1), (9, .v (.int .i64 0)), (8, .v (.slice none 0 0)), (3, .v (.slice ov nv cv)), (2, .v (.slice oq nq cq)), (0, .v (.int .i64 s))], [.row 82 1 N (mapv cs), .row 41 4 k (mapv ds)]⟩ [] []).map (trims [49, 48, 47, 14, 9, 8, 3, 2, 0])) =
  some [Leaf2.mk [] [fun _ => decide ((↑k : Int) < (↑N : Int)) = true,
    fun _ => (0 : Int) ≤ (↑k : Int) ∧ (↑k : Int) < (↑N : Int),
    fun _ => (0 : Nat) < List.length (mapv cs),
    fun _ => (mapv cs)[Int.toNat (↑k : Int) * (1 : Nat)]? = some (SV.v (Value.iface (129 : Nat) (Value.agg (Array.mk [Value.int IntKind.i64 x])))),
    fun _ => false = false,
    fun _ => false = false,
    fun _ => mapv ds = mapv (unv (mapv ds)),
    fun _ => unv (mapv ds) = elsC (unEs (unv (mapv ds))) ∧ List.length (unEs (unv (mapv ds))) = k ∧ (∀ (x : Nat), x ∈ unEs (unv (mapv ds)) → x < top) ∧ (s = (0 : Int) ∨ s = (1 : Int)) ∧ (0 : Int) ≤ x ∧ x < (↑k : Int),
    fun _ => (0 : Nat) + (4 : Nat) ≤ (4 : Nat),
    fun _ => (s = (0 : Int) ∨ s = (1 : Int)) ∧ el (eNeg s (getE (unv (mapv ds)) x)) = el (elN (eNeg s (getE (unv (mapv ds)) x))) ∧ Value.agg (Array.mk [Value.int IntKind.u64 (0 : Int), Value.int IntKind.u64 (0 : Int), Value.int IntKind.u64 (0 : Int), Value.int IntKind.u64 (0 : Int)]) = el (0 : Nat) ∧ elN (eNeg s (getE (unv (mapv ds)) x)) < top ∧ (0 : Nat) < top,
    fun _ => (k + (1 : Nat)) * (32 : Nat) ≤ (140737488355328 : Nat) ∧ k + (1 : Nat) ≤ (140737488355328 : Nat)] (It.rnd [(0 : Nat), (0 : Nat), (1 : Nat), (0 : Nat), (1 : Nat), (1 : Nat), (1 : Nat), (1 : Nat), (1 : Nat)] (M + (1 : Nat)) :: kt) (St.mk [((49 : Nat), SV.v (Value.int IntKind.i64 (IntKind.wrap IntKind.i64 ((↑k : Int) + (1 : Int))))), ((48 : Nat), SV.v (Value.int IntKind.i64 (↑N : Int))), ((47 : Nat), SV.o (0 : Nat)), ((14 : Nat), SV.o (4 : Nat)), ((9 : Nat), SV.v (Value.int IntKind.i64 (0 : Int))), ((8 : Nat), SV.v (Value.slice none (0 : Nat) (0 : Nat))), ((3 : Nat), SV.v (Value.slice ov nv cv)), ((2 : Nat), SV.v (Value.slice oq nq cq)), ((0 : Nat), SV.v (Value.int IntKind.i64 s))] [HO.row (82 : Nat) (1 : Nat) N (mapv cs), HO.gone, HO.cells (ec (eNeg s (getE (unv (mapv ds)) x))) (41 : Nat), HO.row (41 : Nat) (4 : Nat) (1 : Nat) (ec (eAdd s (elN (eNeg s (getE (unv (mapv ds)) x))) (0 : Nat))), HO.row (41 : Nat) (4 : Nat) (k + (1 : Nat)) (mapv ds ++ ec (eAdd s (elN (eNeg s (getE (unv (mapv ds)) x))) (0 : Nat)))])]
  := by kernel_rfl

theorem vl1a (s : Int) (ov oq : Option Addr) (N k M nv cv nq cq : Nat) (cs ds : List Value) (x y : Int) (kt : List It) : ((xgo Try.prog X (bodyOf Try.f33) 85 L8 [] 80 [.t, .lo 0 (.v (.iface 131 (.agg #[.int .i64 x, .int .i64 y]))), .f, .f] ((.nil)) (.at [0,0,1,0,1,1,1,1,1] :: .rnd [0,0,1,0,1,1,1,1,1] (M + 1) :: kt) ⟨[(49, .v (.int .i64 (k : Int))), (48, .v (.int .i64 (N : Int))), (47, .o 0), (14, .o 1), (9, .v (.int .i64 0)), (8, .v (.slice none 0 0)), (3, .v (.slice ov nv cv)), (2, .v (.slice oq nq cq)), (0, .v (.int .i64 s))], [.row 82 1 N (mapv cs), .row 41 4 k (mapv ds)]⟩ [] []).map (trims [49, 48, 47, 14, 9, 8, 3, 2, 0])) =
  some [Leaf2.mk [] [fun _ => decide ((↑k : Int) < (↑N : Int)) = true,
    fun _ => (0 : Int) ≤ (↑k : Int) ∧ (↑k : Int) < (↑N : Int),
    fun _ => (0 : Nat) < List.length (mapv cs),
    fun _ => (mapv cs)[Int.toNat (↑k : Int) * (1 : Nat)]? = some (SV.v (Value.iface (131 : Nat) (Value.agg (Array.mk [Value.int IntKind.i64 x, Value.int IntKind.i64 y])))),
    fun _ => false = false,
    fun _ => false = false,
    fun _ => mapv ds = mapv (unv (mapv ds)),
    fun _ => unv (mapv ds) = elsC (unEs (unv (mapv ds))) ∧ List.length (unEs (unv (mapv ds))) = k ∧ (∀ (x : Nat), x ∈ unEs (unv (mapv ds)) → x < top) ∧ (s = (0 : Int) ∨ s = (1 : Int)) ∧ (0 : Int) ≤ x ∧ x < (↑k : Int) ∧ (0 : Int) ≤ y ∧ y < (↑k : Int),
    fun _ => (0 : Nat) + (4 : Nat) ≤ (4 : Nat),
    fun _ => (s = (0 : Int) ∨ s = (1 : Int)) ∧ el (eAdd s (getE (unv (mapv ds)) x) (getE (unv (mapv ds)) y)) = el (elN (eAdd s (getE (unv (mapv ds)) x) (getE (unv (mapv ds)) y))) ∧ Value.agg (Array.mk [Value.int IntKind.u64 (0 : Int), Value.int IntKind.u64 (0 : Int), Value.int IntKind.u64 (0 : Int), Value.int IntKind.u64 (0 : Int)]) = el (0 : Nat) ∧ elN (eAdd s (getE (unv (mapv ds)) x) (getE (unv (mapv ds)) y)) < top ∧ (0 : Nat) < top,
    fun _ => (k + (1 : Nat)) * (32 : Nat) ≤ (140737488355328 : Nat) ∧ k + (1 : Nat) ≤ (140737488355328 : Nat)] (It.rnd [(0 : Nat), (0 : Nat), (1 : Nat), (0 : Nat), (1 : Nat), (1 : Nat), (1 : Nat), (1 : Nat), (1 : Nat)] (M + (1 : Nat)) :: kt) (St.mk [((49 : Nat), SV.v (Value.int IntKind.i64 (IntKind.wrap IntKind.i64 ((↑k : Int) + (1 : Int))))), ((48 : Nat), SV.v (Value.int IntKind.i64 (↑N : Int))), ((47 : Nat), SV.o (0 : Nat)), ((14 : Nat), SV.o (4 : Nat)), ((9 : Nat), SV.v (Value.int IntKind.i64 (0 : Int))), ((8 : Nat), SV.v (Value.slice none (0 : Nat) (0 : Nat))), ((3 : Nat), SV.v (Value.slice ov nv cv)), ((2 : Nat), SV.v (Value.slice oq nq cq)), ((0 : Nat), SV.v (Value.int IntKind.i64 s))] [HO.row (82 : Nat) (1 : Nat) N (mapv cs), HO.gone, HO.cells (ec (eAdd s (getE (unv (mapv ds)) x) (getE (unv (mapv ds)) y))) (41 : Nat), HO.row (41 : Nat) (4 : Nat) (1 : Nat) (ec (eAdd s (elN (eAdd s (getE (unv (mapv ds)) x) (getE (unv (mapv ds)) y))) (0 : Nat))), HO.row (41 : Nat) (4 : Nat) (k + (1 : Nat)) (mapv ds ++ ec (eAdd s (elN (eAdd s (getE (unv (mapv ds)) x) (getE (unv (mapv ds)) y))) (0 : Nat)))])]
  := by kernel_rfl

theorem vl1m (s : Int) (ov oq : Option Addr) (N k M nv cv nq cq : Nat) (cs ds : List Value) (x y : Int) (kt : List It) : ((xgo Try.prog X (bodyOf Try.f33) 85 L8 [] 80 [.t, .lo 0 (.v (.iface 132 (.agg #[.int .i64 x, .int .i64 y]))), .f, .f] ((.nil)) (.at [0,0,1,0,1,1,1,1,1] :: .rnd [0,0,1,0,1,1,1,1,1] (M + 1) :: kt) ⟨[(49, .v (.int .i64 (k : Int))), (48, .v (.int .i64 (N : Int))), (47, .o 0), (14, .o 1), (9, .v (.int .i64 0)), (8, .v (.slice none 0 0)), (3, .v (.slice ov nv cv)), (2, .v (.slice oq nq cq)), (0, .v (.int .i64 s))], [.row 82 1 N (mapv cs), .row 41 4 k (mapv ds)]⟩ [] []).map (trims [49, 48, 47, 14, 9, 8, 3, 2, 0])) =
  some [Leaf2.mk [] [fun _ => decide ((↑k : Int) < (↑N : Int)) = true,
    fun _ => (0 : Int) ≤ (↑k : Int) ∧ (↑k : Int) < (↑N : Int),
    fun _ => (0 : Nat) < List.length (mapv cs),
    fun _ => (mapv cs)[Int.toNat (↑k : Int) * (1 : Nat)]? = some (SV.v (Value.iface (132 : Nat) (Value.agg (Array.mk [Value.int IntKind.i64 x, Value.int IntKind.i64 y])))),
    fun _ => false = false,
    fun _ => false = false,
    fun _ => mapv ds = mapv (unv (mapv ds)),
    fun _ => unv (mapv ds) = elsC (unEs (unv (mapv ds))) ∧ List.length (unEs (unv (mapv ds))) = k ∧ (∀ (x : Nat), x ∈ unEs (unv (mapv ds)) → x < top) ∧ (s = (0 : Int) ∨ s = (1 : Int)) ∧ (0 : Int) ≤ x ∧ x < (↑k : Int) ∧ (0 : Int) ≤ y ∧ y < (↑k : Int),
    fun _ => (0 : Nat) + (4 : Nat) ≤ (4 : Nat),
    fun _ => (s = (0 : Int) ∨ s = (1 : Int)) ∧ el (eMul s (getE (unv (mapv ds)) x) (getE (unv (mapv ds)) y)) = el (elN (eMul s (getE (unv (mapv ds)) x) (getE (unv (mapv ds)) y))) ∧ Value.agg (Array.mk [Value.int IntKind.u64 (0 : Int), Value.int IntKind.u64 (0 : Int), Value.int IntKind.u64 (0 : Int), Value.int IntKind.u64 (0 : Int)]) = el (0 : Nat) ∧ elN (eMul s (getE (unv (mapv ds)) x) (getE (unv (mapv ds)) y)) < top ∧ (0 : Nat) < top,
    fun _ => (k + (1 : Nat)) * (32 : Nat) ≤ (140737488355328 : Nat) ∧ k + (1 : Nat) ≤ (140737488355328 : Nat)] (It.rnd [(0 : Nat), (0 : Nat), (1 : Nat), (0 : Nat), (1 : Nat), (1 : Nat), (1 : Nat), (1 : Nat), (1 : Nat)] (M + (1 : Nat)) :: kt) (St.mk [((49 : Nat), SV.v (Value.int IntKind.i64 (IntKind.wrap IntKind.i64 ((↑k : Int) + (1 : Int))))), ((48 : Nat), SV.v (Value.int IntKind.i64 (↑N : Int))), ((47 : Nat), SV.o (0 : Nat)), ((14 : Nat), SV.o (4 : Nat)), ((9 : Nat), SV.v (Value.int IntKind.i64 (0 : Int))), ((8 : Nat), SV.v (Value.slice none (0 : Nat) (0 : Nat))), ((3 : Nat), SV.v (Value.slice ov nv cv)), ((2 : Nat), SV.v (Value.slice oq nq cq)), ((0 : Nat), SV.v (Value.int IntKind.i64 s))] [HO.row (82 : Nat) (1 : Nat) N (mapv cs), HO.gone, HO.cells (ec (eMul s (getE (unv (mapv ds)) x) (getE (unv (mapv ds)) y))) (41 : Nat), HO.row (41 : Nat) (4 : Nat) (1 : Nat) (ec (eAdd s (elN (eMul s (getE (unv (mapv ds)) x) (getE (unv (mapv ds)) y))) (0 : Nat))), HO.row (41 : Nat) (4 : Nat) (k + (1 : Nat)) (mapv ds ++ ec (eAdd s (elN (eMul s (getE (unv (mapv ds)) x) (getE (unv (mapv ds)) y))) (0 : Nat)))])]
  := by kernel_rfl

theorem vl1s (s : Int) (ov oq : Option Addr) (N k M nv cv nq cq : Nat) (cs ds : List Value) (x : Int) (v : Nat) (kt : List It) : ((xgo Try.prog X (bodyOf Try.f33) 85 L8 [] 80 [.t, .lo 0 (.v (.iface 134 (.agg #[.int .i64 x, .int .u64 (limb v 0 : Nat), .int .u64 (limb v 1 : Nat), .int .u64 (limb v 2 : Nat), .int .u64 (limb v 3 : Nat)]))), .f, .f] ((.nil)) (.at [0,0,1,0,1,1,1,1,1] :: .rnd [0,0,1,0,1,1,1,1,1] (M + 1) :: kt) ⟨[(49, .v (.int .i64 (k : Int))), (48, .v (.int .i64 (N : Int))), (47, .o 0), (14, .o 1), (9, .v (.int .i64 0)), (8, .v (.slice none 0 0)), (3, .v (.slice ov nv cv)), (2, .v (.slice oq nq cq)), (0, .v (.int .i64 s))], [.row 82 1 N (mapv cs), .row 41 4 k (mapv ds)]⟩ [] []).map (trims [49, 48, 47, 14, 9, 8, 3, 2, 0])) =
  some [Leaf2.mk [] [fun _ => decide ((↑k : Int) < (↑N : Int)) = true,
    fun _ => (0 : Int) ≤ (↑k : Int) ∧ (↑k : Int) < (↑N : Int),
    fun _ => (0 : Nat) < List.length (mapv cs),
    fun _ => (mapv cs)[Int.toNat (↑k : Int) * (1 : Nat)]? = some (SV.v (Value.iface (134 : Nat) (Value.agg (Array.mk [Value.int IntKind.i64 x, Value.int IntKind.u64 (↑(limb v (0 : Nat)) : Int), Value.int IntKind.u64 (↑(limb v (1 : Nat)) : Int), Value.int IntKind.u64 (↑(limb v (2 : Nat)) : Int), Value.int IntKind.u64 (↑(limb v (3 : Nat)) : Int)])))),
    fun _ => false = false,
    fun _ => false = false,
    fun _ => mapv ds = mapv (unv (mapv ds)),
    fun _ => unv (mapv ds) = elsC (unEs (unv (mapv ds))) ∧ List.length (unEs (unv (mapv ds))) = k ∧ (∀ (x : Nat), x ∈ unEs (unv (mapv ds)) → x < top) ∧ (s = (0 : Int) ∨ s = (1 : Int)) ∧ (0 : Int) ≤ x ∧ x < (↑k : Int) ∧ el v = el (elN v) ∧ elN v < top,
    fun _ => (0 : Nat) + (4 : Nat) ≤ (4 : Nat),
    fun _ => (s = (0 : Int) ∨ s = (1 : Int)) ∧ el (eMul s (elN v) (getE (unv (mapv ds)) x)) = el (elN (eMul s (elN v) (getE (unv (mapv ds)) x))) ∧ Value.agg (Array.mk [Value.int IntKind.u64 (0 : Int), Value.int IntKind.u64 (0 : Int), Value.int IntKind.u64 (0 : Int), Value.int IntKind.u64 (0 : Int)]) = el (0 : Nat) ∧ elN (eMul s (elN v) (getE (unv (mapv ds)) x)) < top ∧ (0 : Nat) < top,
    fun _ => (k + (1 : Nat)) * (32 : Nat) ≤ (140737488355328 : Nat) ∧ k + (1 : Nat) ≤ (140737488355328 : Nat)] (It.rnd [(0 : Nat), (0 : Nat), (1 : Nat), (0 : Nat), (1 : Nat), (1 : Nat), (1 : Nat), (1 : Nat), (1 : Nat)] (M + (1 : Nat)) :: kt) (St.mk [((49 : Nat), SV.v (Value.int IntKind.i64 (IntKind.wrap IntKind.i64 ((↑k : Int) + (1 : Int))))), ((48 : Nat), SV.v (Value.int IntKind.i64 (↑N : Int))), ((47 : Nat), SV.o (0 : Nat)), ((14 : Nat), SV.o (4 : Nat)), ((9 : Nat), SV.v (Value.int IntKind.i64 (0 : Int))), ((8 : Nat), SV.v (Value.slice none (0 : Nat) (0 : Nat))), ((3 : Nat), SV.v (Value.slice ov nv cv)), ((2 : Nat), SV.v (Value.slice oq nq cq)), ((0 : Nat), SV.v (Value.int IntKind.i64 s))] [HO.row (82 : Nat) (1 : Nat) N (mapv cs), HO.gone, HO.cells (ec (eMul s (elN v) (getE (unv (mapv ds)) x))) (41 : Nat), HO.row (41 : Nat) (4 : Nat) (1 : Nat) (ec (eAdd s (elN (eMul s (elN v) (getE (unv (mapv ds)) x))) (0 : Nat))), HO.row (41 : Nat) (4 : Nat) (k + (1 : Nat)) (mapv ds ++ ec (eAdd s (elN (eMul s (elN v) (getE (unv (mapv ds)) x))) (0 : Nat)))])]
  := by kernel_rfl

theorem vl1q (s : Int) (av : Addr) (oq : Option Addr) (N k M nv cv nq cq : Nat) (cs ds : List Value) (o x y : Int) (v : Nat) (l : List (Int × Int × Int)) (kt : List It) : ((xgo Try.prog X (bodyOf Try.f33) 85 L8 [] 80 [.t, .lo 0 (.v (.iface 103 (.agg #[.int .i64 o, .int .i64 x, .int .i64 y]))), .f, .t, .lx (qsC l), .f, .ld (.agg [.v (.int .u64 (limb v 0 : Nat)), .v (.int .u64 (limb v 1 : Nat)), .v (.int .u64 (limb v 2 : Nat)), .v (.int .u64 (limb v 3 : Nat))])] ((.nil)) (.at [0,0,1,0,1,1,1,1,1] :: .rnd [0,0,1,0,1,1,1,1,1] (M + 1) :: kt) ⟨[(49, .v (.int .i64 (k : Int))), (48, .v (.int .i64 (N : Int))), (47, .o 0), (14, .o 1), (9, .v (.int .i64 0)), (8, .v (.slice none 0 0)), (3, .v (.slice (some av) nv cv)), (2, .v (.slice oq nq cq)), (0, .v (.int .i64 s))], [.row 82 1 N (mapv cs), .row 41 4 k (mapv ds)]⟩ [] []).map (trims [49, 48, 47, 14, 9, 8, 3, 2, 0])) =
  some [Leaf2.mk [] [fun _ => decide ((↑k : Int) < (↑N : Int)) = true,
    fun _ => (0 : Int) ≤ (↑k : Int) ∧ (↑k : Int) < (↑N : Int),
    fun _ => (0 : Nat) < List.length (mapv cs),
    fun _ => (mapv cs)[Int.toNat (↑k : Int) * (1 : Nat)]? = some (SV.v (Value.iface (103 : Nat) (Value.agg (Array.mk [Value.int IntKind.i64 o, Value.int IntKind.i64 x, Value.int IntKind.i64 y])))),
    fun _ => false = false,
    fun _ => true = true,
    fun _ => (0 : Nat) + (3 : Nat) ≤ (3 : Nat), fun M => qsC l = [] ∨ MCells (fun a => M a) oq (qsC l),
    fun _ => qsC l = qsC (unQs (qsC l)) ∧ List.length (unQs (qsC l)) = nq ∧ nq ≤ (4611686018427387903 : Nat),
    fun _ => decide (qIdx (qsC l) o x y < (0 : Int)) = false,
    fun _ => (0 : Int) ≤ qIdx (qsC l) o x y ∧ qIdx (qsC l) o x y < (↑nv : Int),
    fun _ => true = true, fun M => MCells (fun a => M a) (some (if Int.toNat (qIdx (qsC l) o x y) * (4 : Nat) = (0 : Nat) then av else Addr.mk av.1 (av.2 + Int.toNat (qIdx (qsC l) o x y) * (4 : Nat)) none)) [Value.int IntKind.u64 (↑(limb v (0 : Nat)) : Int), Value.int IntKind.u64 (↑(limb v (1 : Nat)) : Int), Value.int IntKind.u64 (↑(limb v (2 : Nat)) : Int), Value.int IntKind.u64 (↑(limb v (3 : Nat)) : Int)],
    fun _ => (0 : Nat) + (4 : Nat) ≤ (4 : Nat),
    fun _ => (s = (0 : Int) ∨ s = (1 : Int)) ∧ el v = el (elN v) ∧ Value.agg (Array.mk [Value.int IntKind.u64 (0 : Int), Value.int IntKind.u64 (0 : Int), Value.int IntKind.u64 (0 : Int), Value.int IntKind.u64 (0 : Int)]) = el (0 : Nat) ∧ elN v < top ∧ (0 : Nat) < top,
    fun _ => (k + (1 : Nat)) * (32 : Nat) ≤ (140737488355328 : Nat) ∧ k + (1 : Nat) ≤ (140737488355328 : Nat)] (It.rnd [(0 : Nat), (0 : Nat), (1 : Nat), (0 : Nat), (1 : Nat), (1 : Nat), (1 : Nat), (1 : Nat), (1 : Nat)] (M + (1 : Nat)) :: kt) (St.mk [((49 : Nat), SV.v (Value.int IntKind.i64 (IntKind.wrap IntKind.i64 ((↑k : Int) + (1 : Int))))), ((48 : Nat), SV.v (Value.int IntKind.i64 (↑N : Int))), ((47 : Nat), SV.o (0 : Nat)), ((14 : Nat), SV.o (5 : Nat)), ((9 : Nat), SV.v (Value.int IntKind.i64 (0 : Int))), ((8 : Nat), SV.v (Value.slice none (0 : Nat) (0 : Nat))), ((3 : Nat), SV.v (Value.slice (some av) nv cv)), ((2 : Nat), SV.v (Value.slice oq nq cq)), ((0 : Nat), SV.v (Value.int IntKind.i64 s))] [HO.row (82 : Nat) (1 : Nat) N (mapv cs), HO.gone, HO.cells (ec v) (41 : Nat), HO.cells [SV.v (Value.int IntKind.i64 o), SV.v (Value.int IntKind.i64 x), SV.v (Value.int IntKind.i64 y)] (103 : Nat), HO.row (41 : Nat) (4 : Nat) (1 : Nat) (ec (eAdd s (elN v) (0 : Nat))), HO.row (41 : Nat) (4 : Nat) (k + (1 : Nat)) (mapv ds ++ ec (eAdd s (elN v) (0 : Nat)))])]
  := by kernel_rfl

theorem vlQ (s : Int) (ov oq : Option Addr) (N k M nv cv nq cq : Nat) (cs ds : List Value) (o x y : Int) (l : List (Int × Int × Int)) : (((xgo Try.prog X (bodyOf Try.f33) 85 L8 [] 80 [.t, .lo 0 (.v (.iface 103 (.agg #[.int .i64 o, .int .i64 x, .int .i64 y]))), .f, .t, .lx (qsC l), .t] ((.nil)) [.at [0,0,1,0,1,1,1,1,1], .rnd [0,0,1,0,1,1,1,1,1] (M + 1), .blk 1, .at [1,1,1,1,1,1]] ⟨[(49, .v (.int .i64 (k : Int))), (48, .v (.int .i64 (N : Int))), (47, .o 0), (14, .o 1), (9, .v (.int .i64 0)), (8, .v (.slice none 0 0)), (3, .v (.slice ov nv cv)), (2, .v (.slice oq nq cq)), (0, .v (.int .i64 s))], [.row 82 1 N (mapv cs), .row 41 4 k (mapv ds)]⟩ [] []).bind (ends Try.prog Try.f33.results.toList)).bind plainE) =
  some [EndP.mk [] [fun _ => decide ((↑k : Int) < (↑N : Int)) = true,
    fun _ => (0 : Int) ≤ (↑k : Int) ∧ (↑k : Int) < (↑N : Int),
    fun _ => (0 : Nat) < List.length (mapv cs),
    fun _ => (mapv cs)[Int.toNat (↑k : Int) * (1 : Nat)]? = some (SV.v (Value.iface (103 : Nat) (Value.agg (Array.mk [Value.int IntKind.i64 o, Value.int IntKind.i64 x, Value.int IntKind.i64 y])))),
    fun _ => false = false,
    fun _ => true = true,
    fun _ => (0 : Nat) + (3 : Nat) ≤ (3 : Nat), fun M => qsC l = [] ∨ MCells (fun a => M a) oq (qsC l),
    fun _ => qsC l = qsC (unQs (qsC l)) ∧ List.length (unQs (qsC l)) = nq ∧ nq ≤ (4611686018427387903 : Nat),
    fun _ => decide (qIdx (qsC l) o x y < (0 : Int)) = true] (Res.v (Value.tuple (Array.mk [Value.slice none (0 : Nat) (0 : Nat), Value.int IntKind.i64 (50 : Int)])))]
  := by kernel_rfl

theorem vlE_ (s : Int) (ov oq : Option Addr) (N k M nv cv nq cq : Nat) (cs ds : List Value) : (((xgo Try.prog X (bodyOf Try.f33) 85 L8 [] 80 [.f] ((.nil)) [.at [0,0,1,0,1,1,1,1,1], .rnd [0,0,1,0,1,1,1,1,1] (M + 1), .blk 1, .at [1,1,1,1,1,1]] ⟨[(49, .v (.int .i64 (k : Int))), (48, .v (.int .i64 (N : Int))), (47, .o 0), (14, .o 1), (9, .v (.int .i64 0)), (8, .v (.slice none 0 0)), (3, .v (.slice ov nv cv)), (2, .v (.slice oq nq cq)), (0, .v (.int .i64 s))], [.row 82 1 N (mapv cs), .row 41 4 k (mapv ds)]⟩ [] []).bind (ends Try.prog Try.f33.results.toList)).bind plainE) =
  some [EndP.mk [] [fun _ => decide ((↑k : Int) < (↑N : Int)) = false,
    fun _ => mapv ds = mapv (unv (mapv ds))] (Res.rt (41 : Nat) (4 : Nat) k (unv (mapv ds)) [Value.int IntKind.i64 (0 : Int)])]
  := by kernel_rfl

theorem agg0 : Value.agg (Array.mk [Value.int IntKind.u64 (0 : Int), Value.int IntKind.u64 (0 : Int), Value.int IntKind.u64 (0 : Int), Value.int IntKind.u64 (0 : Int)]) = el (0 : Nat) := (el_small 0 (by omega)).symm
noncomputable def stVl (s : Int) (ov oq : Option Addr) (N nv cv nq cq : Nat) (cs : List Value) (k : Nat) (ds : List Value) : St := ⟨[(49, .v (.int .i64 (k : Int))), (48, .v (.int .i64 (N : Int))), (47, .o 0), (14, .o 1), (9, .v (.int .i64 0)), (8, .v (.slice none 0 0)), (3, .v (.slice ov nv cv)), (2, .v (.slice oq nq cq)), (0, .v (.int .i64 s))], [.row 82 1 N (mapv cs), .row 41 4 k (mapv ds)]⟩
theorem vl_weak {w : World} {fin : Exit → Act → World → Prop} (s : Int) (ov oq : Option Addr) (N nv cv nq cq : Nat) (cs : List Value) (k : Nat) (ds : List Value) (i j : Nat) (xs : List SV) (hx : xs = mapv ds) (hj : nodupB [i, j] = true) (kt : List It) (tm : List (Nat × SV)) (hp : List HO) (h1 : RenT [i, j] tm (stVl s ov oq N nv cv nq cq cs k ds).tm) (h2 : hp[i]? = some (.row 82 1 N (mapv cs))) (h3 : hp[j]? = some (.row 41 4 k xs))
    (next : Ok Try.prog (bodyOf Try.f33) 85 (F0 w) w fin kt (stVl s ov oq N nv cv nq cq cs k ds)) : Ok Try.prog (bodyOf Try.f33) 85 (F0 w) w fin kt ⟨tm, hp⟩ :=
  Ok.weaken (st' := stVl s ov oq N nv cv nq cq cs k ds) (F0.mono w) [i, j] h1 ⟨by rw [h2]; exact ren_row _ _ _ _ _, by rw [h3, hx]; exact ren_row _ _ _ _ _, trivial⟩ hj ⟨by simp [stVl, wsAllT, ws], by simp only [stVl, wsAllH, HO.ws, and_true]; exact ⟨wsL_mapv _ _, wsL_mapv _ _⟩⟩ next
theorem vl_loop {w : World} (s : Int) (hs : s = 0 ∨ s = 1) (all : List Nd) (hw : ∀ x ∈ all, x.v < top) (ho : ordN 0 all = true) (hb : all.length ≤ 4000000000000) (ov oq : Option Addr) (nv cv nq cq : Nat) (qs : List Qy) (vs : List Nat) (hvt : ∀ x ∈ vs, x < top) (hq : qs.length = nq) (hv : vs.length = nv) (hvq : nv = nq) (hqb : nq ≤ 4000000000000) (haq : qsC qs = [] ∨ MCells (wmem w) oq (qsC qs)) (hav : elsC vs = [] ∨ MCells (wmem w) ov (elsC vs)) (R : Res → Prop) (hbad : valsN s qs vs [] all = none → R (.v (.tuple #[.slice none 0 0, .int .i64 50]))) (hgood : ∀ out, valsN s qs vs [] all = some out → R (.rt 41 4 out.length (elsC out) [.int .i64 0])) :
    ∀ (l pre : List Nd) (out : List Nat), all = pre ++ l → out.length = pre.length → (∀ z ∈ out, z < top) → valsN s qs vs [] all = valsN s qs vs out l →
    Ok Try.prog (bodyOf Try.f33) 85 (F0 w) w (bodyPost Try.prog Try.f33 fun E w' => ∃ v r, E = .returned v ∧ R r ∧ r.ok w w' v ∧ Below w.heap.size w w') (.rnd [0,0,1,0,1,1,1,1,1] (l.length + 2) :: [.blk 1, .at [1,1,1,1,1,1]]) (stVl s ov oq all.length nv cv nq cq (stC (nodesC all)) pre.length (elsC out))
  | [], pre, out, he, hl0, hz, hval => by
    have hl : pre.length = all.length := by rw [he]; simp
    refine Ok.rnd (ok_plain hm (F0.mono w) (fun _ h => h) 80 _ _ _ _ (vlE_ s ov oq all.length pre.length 0 nv cv nq cq (stC (nodesC all)) (elsC out)) ⟨fun _ => ⟨?_, ?_⟩, trivial⟩)
    · simp only [hold_cons, hold_nil, and_true, unv_mapv']
      exact ⟨fun _ _ => decide_eq_false (by omega), fun _ _ => trivial⟩
    · rw [unv_mapv', ← hl0]
      exact hgood out hval
  | x :: l, pre, out, he, hl0, hz, hval => by
    have hl : pre.length + (l.length + 1) = all.length := by rw [he]; simp
    have hlt : pre.length < all.length := by omega
    have hgx : all[pre.length] = x := by simp [he]
    have hget := stC_get hw ho pre.length hlt
    rw [hgx] at hget
    have hxt : x.v < top := hw x (by rw [he]; simp)
    have hop := ordN_op all 0 ho x (by rw [he]; simp)
    have hus := okN_uses (by have := ordN_at pre l x 0 (by rw [← he]; exact ho); rwa [Nat.zero_add] at this)
    have s3 : 0 < (mapv (stC (nodesC all))).length := by
      rw [stC, unNds_nodesC all hw, if_pos ho, mapv_length, List.length_map]; omega
    have hun : unEs (elsC out) = out := unEs_elsC out hz
    have hgE : ∀ a, getE (elsC out) a = out.getD a.toNat 0 := fun a => by rw [getE, hide_eq, hun]
    have hlen : (pre ++ [x]).length = pre.length + 1 := by simp
    have t0 : (0 : Nat) < top := top_pos
    have next : ∀ v, valD s qs vs out x = some v → Ok Try.prog (bodyOf Try.f33) 85 (F0 w) w (bodyPost Try.prog Try.f33 fun E w' => ∃ v r, E = .returned v ∧ R r ∧ r.ok w w' v ∧ Below w.heap.size w w') (.rnd [0,0,1,0,1,1,1,1,1] (l.length + 2) :: [.blk 1, .at [1,1,1,1,1,1]]) (stVl s ov oq all.length nv cv nq cq (stC (nodesC all)) (pre.length + 1) (elsC out ++ elC (eAdd s v 0))) := fun v hd => by
      have := vl_loop (w := w) s hs all hw ho hb ov oq nv cv nq cq qs vs hvt hq hv hvq hqb haq hav R hbad hgood l (pre ++ [x]) (out ++ [eAdd s v 0]) (by rw [he]; simp) (by simp [hl0]) (by
        intro z hz'
        rcases List.mem_append.1 hz' with h | h
        · exact hz z h
        · rw [List.mem_singleton] at h; rw [h]; exact eAdd_lt _ _ _) (by rw [hval, valsN_some hd])
      rw [hlen, elsC_append] at this
      exact this
    by_cases hkc : x.op = 1
    · rw [stV_c hkc] at hget
      have ev := elN_eq hxt
      refine Ok.rnd (xgo_trim hm (F0.mono w) finB 80 _ _ _ _ _ _ (vl1c s ov oq all.length pre.length (l.length + 1) nv cv nq cq (stC (nodesC all)) (elsC out) x.v _) (paidCons (fun _ => ⟨?_, ?_⟩) paidNil))
      · simp only [hold_cons, hold_nil, and_true, ev, agg0]
        exact ⟨fun _ _ => decide_eq_true (by omega), fun _ _ => ⟨by omega, by omega⟩, fun _ _ => s3, fun _ _ => hget, fun _ _ => trivial, fun _ _ => by omega, fun _ _ => by omega, fun _ _ => ⟨hs, trivial, trivial, hxt, t0⟩, fun _ _ => ⟨by omega, by omega⟩⟩
      · simp only [wrap_inc pre.length (by omega), ev]
        exact vl_weak _ _ _ _ _ _ _ _ _ _ _ 0 5 _ (by rw [ec_mapv, mapv_append]) rfl _ _ _ ⟨rfl, rfl, rfl, rfl, rfl, rfl, rfl, rfl, rfl, trivial⟩ rfl rfl (next _ (valD_c s qs vs out hkc))
    by_cases hkn : x.op = 5
    · rw [stV_n hkn] at hget
      have u1 := hus x.a (by rw [usesN_eq, us_n _ _ (by omega)]; simp)
      have ew := elN_eq (n := (eNeg s (out.getD x.a.toNat 0))) (eNeg_lt s _)
      refine Ok.rnd (xgo_trim hm (F0.mono w) finB 80 _ _ _ _ _ _ (vl1n s ov oq all.length pre.length (l.length + 1) nv cv nq cq (stC (nodesC all)) (elsC out) x.a _) (paidCons (fun _ => ⟨?_, ?_⟩) paidNil))
      · simp only [hold_cons, hold_nil, unv_mapv', hun, hgE, ew, agg0]
        exact ⟨fun _ _ => decide_eq_true (by omega), fun _ _ => ⟨by omega, by omega⟩, fun _ _ => s3, fun _ _ => hget, fun _ _ => trivial, fun _ _ => trivial, fun _ _ => trivial, fun _ _ => ⟨trivial, hl0, hz, hs, u1.1, by omega⟩, fun _ _ => by omega, fun _ _ => ⟨hs, trivial, trivial, eNeg_lt s _, t0⟩, fun _ _ => ⟨by omega, by omega⟩, trivial⟩
      · simp only [wrap_inc pre.length (by omega), unv_mapv', hun, hgE, ew]
        exact vl_weak _ _ _ _ _ _ _ _ _ _ _ 0 4 _ (by rw [ec_mapv, mapv_append]) rfl _ _ _ ⟨rfl, rfl, rfl, rfl, rfl, rfl, rfl, rfl, rfl, trivial⟩ rfl rfl (next _ (valD_n s qs vs out hkn))
    by_cases hka : x.op = 6
    · rw [stV_a hka] at hget
      have u1 := hus x.a (by rw [usesN_eq, us_a _ _ (by omega)]; simp)
      have u2 := hus x.b (by rw [usesN_eq, us_a _ _ (by omega)]; simp)
      have ew := elN_eq (n := (eAdd s (out.getD x.a.toNat 0) (out.getD x.b.toNat 0))) (eAdd_lt s _ _)
      refine Ok.rnd (xgo_trim hm (F0.mono w) finB 80 _ _ _ _ _ _ (vl1a s ov oq all.length pre.length (l.length + 1) nv cv nq cq (stC (nodesC all)) (elsC out) x.a x.b _) (paidCons (fun _ => ⟨?_, ?_⟩) paidNil))
      · simp only [hold_cons, hold_nil, unv_mapv', hun, hgE, ew, agg0]
        exact ⟨fun _ _ => decide_eq_true (by omega), fun _ _ => ⟨by omega, by omega⟩, fun _ _ => s3, fun _ _ => hget, fun _ _ => trivial, fun _ _ => trivial, fun _ _ => trivial, fun _ _ => ⟨trivial, hl0, hz, hs, u1.1, by omega, u2.1, by omega⟩, fun _ _ => by omega, fun _ _ => ⟨hs, trivial, trivial, eAdd_lt s _ _, t0⟩, fun _ _ => ⟨by omega, by omega⟩, trivial⟩
      · simp only [wrap_inc pre.length (by omega), unv_mapv', hun, hgE, ew]
        exact vl_weak _ _ _ _ _ _ _ _ _ _ _ 0 4 _ (by rw [ec_mapv, mapv_append]) rfl _ _ _ ⟨rfl, rfl, rfl, rfl, rfl, rfl, rfl, rfl, rfl, trivial⟩ rfl rfl (next _ (valD_a s qs vs out hka))
    by_cases hkm : x.op = 7
    · rw [stV_m hkm] at hget
      have u1 := hus x.a (by rw [usesN_eq, us_a _ _ (by omega)]; simp)
      have u2 := hus x.b (by rw [usesN_eq, us_a _ _ (by omega)]; simp)
      have ew := elN_eq (n := (eMul s (out.getD x.a.toNat 0) (out.getD x.b.toNat 0))) (eMul_lt s _ _)
      refine Ok.rnd (xgo_trim hm (F0.mono w) finB 80 _ _ _ _ _ _ (vl1m s ov oq all.length pre.length (l.length + 1) nv cv nq cq (stC (nodesC all)) (elsC out) x.a x.b _) (paidCons (fun _ => ⟨?_, ?_⟩) paidNil))
      · simp only [hold_cons, hold_nil, unv_mapv', hun, hgE, ew, agg0]
        exact ⟨fun _ _ => decide_eq_true (by omega), fun _ _ => ⟨by omega, by omega⟩, fun _ _ => s3, fun _ _ => hget, fun _ _ => trivial, fun _ _ => trivial, fun _ _ => trivial, fun _ _ => ⟨trivial, hl0, hz, hs, u1.1, by omega, u2.1, by omega⟩, fun _ _ => by omega, fun _ _ => ⟨hs, trivial, trivial, eMul_lt s _ _, t0⟩, fun _ _ => ⟨by omega, by omega⟩, trivial⟩
      · simp only [wrap_inc pre.length (by omega), unv_mapv', hun, hgE, ew]
        exact vl_weak _ _ _ _ _ _ _ _ _ _ _ 0 4 _ (by rw [ec_mapv, mapv_append]) rfl _ _ _ ⟨rfl, rfl, rfl, rfl, rfl, rfl, rfl, rfl, rfl, trivial⟩ rfl rfl (next _ (valD_m s qs vs out hkm))
    by_cases hks : x.op = 8
    · rw [stV_s hks] at hget
      have ev := elN_eq hxt
      have u1 := hus x.a (by rw [usesN_eq, us_n _ _ (by omega)]; simp)
      have ew := elN_eq (n := (eMul s x.v (out.getD x.a.toNat 0))) (eMul_lt s _ _)
      refine Ok.rnd (xgo_trim hm (F0.mono w) finB 80 _ _ _ _ _ _ (vl1s s ov oq all.length pre.length (l.length + 1) nv cv nq cq (stC (nodesC all)) (elsC out) x.a x.v _) (paidCons (fun _ => ⟨?_, ?_⟩) paidNil))
      · simp only [hold_cons, hold_nil, unv_mapv', hun, hgE, ev, ew, agg0]
        exact ⟨fun _ _ => decide_eq_true (by omega), fun _ _ => ⟨by omega, by omega⟩, fun _ _ => s3, fun _ _ => hget, fun _ _ => trivial, fun _ _ => trivial, fun _ _ => trivial, fun _ _ => ⟨trivial, hl0, hz, hs, u1.1, by omega, trivial, hxt⟩, fun _ _ => by omega, fun _ _ => ⟨hs, trivial, trivial, eMul_lt s _ _, t0⟩, fun _ _ => ⟨by omega, by omega⟩, trivial⟩
      · simp only [wrap_inc pre.length (by omega), unv_mapv', hun, hgE, ev, ew]
        exact vl_weak _ _ _ _ _ _ _ _ _ _ _ 0 4 _ (by rw [ec_mapv, mapv_append]) rfl _ _ _ ⟨rfl, rfl, rfl, rfl, rfl, rfl, rfl, rfl, rfl, trivial⟩ rfl rfl (next _ (valD_s s qs vs out hks))
    have hkq : 2 ≤ x.op ∧ x.op ≤ 4 := by omega
    rw [stV_q hkq] at hget
    have hix : qIdx (qsC qs) x.op x.a x.b = idxF (sameQ x.op x.a x.b) 0 qs := by rw [qIdx, hidZ_eq, unQs_qsC]
    have hvd := valD_q s qs vs out hkq
    have hmq : ∀ M, F0 w M → qsC qs = [] ∨ MCells (fun a => M a) oq (qsC qs) := fun _ hM => haq.imp id fun h => h.mono hM
    by_cases hneg : idxF (sameQ x.op x.a x.b) 0 qs < 0
    · rw [if_pos hneg] at hvd
      refine Ok.rnd (ok_plain hm (F0.mono w) (fun _ h => h) 80 _ _ _ _ (vlQ s ov oq all.length pre.length (l.length + 1) nv cv nq cq (stC (nodesC all)) (elsC out) x.op x.a x.b qs) ⟨fun _ => ⟨?_, hbad (by rw [hval, valsN_none hvd])⟩, trivial⟩)
      simp only [hold_cons, hold_nil, and_true, hix, unQs_qsC]
      exact ⟨fun _ _ => decide_eq_true (by omega), fun _ _ => ⟨by omega, by omega⟩, fun _ _ => s3, fun _ _ => hget, fun _ _ => trivial, fun _ _ => trivial, fun _ _ => by omega, hmq, fun _ _ => ⟨trivial, hq, by omega⟩, fun _ _ => decide_eq_true hneg⟩
    · rw [if_neg hneg] at hvd
      have hil := idxF_lt (sameQ x.op x.a x.b) qs 0
      obtain ⟨av, rfl, hxv⟩ := els_get hav (idxF (sameQ x.op x.a x.b) 0 qs).toNat (by omega)
      have hvl := getE_lt hvt (idxF (sameQ x.op x.a x.b) 0 qs).toNat
      have ev := elN_eq hvl
      refine Ok.rnd (xgo_trim hm (F0.mono w) finB 80 _ _ _ _ _ _ (vl1q s av oq all.length pre.length (l.length + 1) nv cv nq cq (stC (nodesC all)) (elsC out) x.op x.a x.b (vs.getD (idxF (sameQ x.op x.a x.b) 0 qs).toNat 0) qs _) (paidCons (fun _ => ⟨?_, ?_⟩) paidNil))
      · simp only [hold_cons, hold_nil, hix, unQs_qsC, ev, agg0]
        exact ⟨fun _ _ => decide_eq_true (by omega), fun _ _ => ⟨by omega, by omega⟩, fun _ _ => s3, fun _ _ => hget, fun _ _ => trivial, fun _ _ => trivial, fun _ _ => by omega, hmq, fun _ _ => ⟨trivial, hq, by omega⟩, fun _ _ => decide_eq_false hneg, fun _ _ => ⟨by omega, by omega⟩, fun _ _ => trivial, hold_cells hxv, fun _ _ => by omega, fun _ _ => ⟨hs, trivial, trivial, hvl, t0⟩, fun _ _ => ⟨by omega, by omega⟩, trivial⟩
      · simp only [wrap_inc pre.length (by omega), ev]
        exact vl_weak _ _ _ _ _ _ _ _ _ _ _ 0 5 _ (by rw [ec_mapv, mapv_append]) rfl _ _ _ ⟨rfl, rfl, rfl, rfl, rfl, rfl, rfl, rfl, rfl, trivial⟩ rfl rfl (next _ hvd)
end Go.Proofs.Ytpghmnpbfaichaa

namespace Go.Proofs.Ytpghmnpbfaichaa
open Go.Sx Go.Pl Go.RowKit
set_option linter.unusedVariables false
theorem values_ok (s : Int) (hs : s = 0 ∨ s = 1) (oa : Option Addr) (n cap : Nat) (all : List Nd) (hw : ∀ x ∈ all, x.v < top) (hn : all.length = n) (hb : n ≤ 4000000000000) (oq : Option Addr) (nq cq : Nat) (qs : List Qy) (hq : qs.length = nq) (hqb : nq ≤ 4000000000000) (ov : Option Addr) (nv cv : Nat) (vs : List Nat) (hv : vs.length = nv) (hvt : ∀ x ∈ vs, x < top) (w : World)
    (ha : nodesC all = [] ∨ MCells (wmem w) oa (nodesC all)) (haq : qsC qs = [] ∨ MCells (wmem w) oq (qsC qs)) (hav : elsC vs = [] ∨ MCells (wmem w) ov (elsC vs)) :
    Calls Try.prog 33 [.int .i64 s, .slice oa n cap, .slice oq nq cq, .slice ov nv cv].toArray w (fun E w' => ∃ v, E = .returned v ∧ Res.ok w w' (.rt 41 4 (vlR s qs vs all).1.length (elsC (vlR s qs vs all).1) [.int .i64 (vlR s qs vs all).2]) v ∧ Below w.heap.size w w') := by
  have hun := unNds_nodesC all hw
  have hmem : ∀ M, F0 w M → nodesC all = [] ∨ MCells (fun a => M a) oa (nodesC all) := fun _ hM => ha.imp id fun h => h.mono hM
  have hst : stB (nodesC all) = ordN 0 all := by rw [stB, hidQ_eq, hun]
  have hside : nodesC all = nodesC (unNds (nodesC all)) ∧ (unNds (nodesC all)).length = n ∧ n ≤ 4398046511104 := by rw [hun]; exact ⟨rfl, hn, by omega⟩
  have nil_ok : ∀ e, vlR s qs vs all = ([], e) → ∀ w w' v, (Res.v (.tuple #[.slice none 0 0, .int .i64 e])).ok w w' v → (Res.rt 41 4 (vlR s qs vs all).1.length (elsC (vlR s qs vs all).1) [.int .i64 (vlR s qs vs all).2]).ok w w' v := by
    intro e he w1 w2 v hv
    rw [he]
    exact ⟨.slice none 0 0, hv, nilRow _ _ _ _⟩
  cases ho : ordN 0 all with
  | false =>
    refine con_end2 (calls_plain (R := fun q => ∀ w w' v, q.ok w w' v → (Res.rt 41 4 (vlR s qs vs all).1.length (elsC (vlR s qs vs all).1) [.int .i64 (vlR s qs vs all).2]).ok w w' v) hm Try.func33 (by kernel_rfl) rfl rfl 80 _ _ (vlX s oa oq ov n cap nq cq nv cv all) ⟨fun _ => ⟨?_, nil_ok 110 (by rw [vlR, if_pos ho])⟩, trivial⟩)
    simp only [hold_cons, hold_nil, and_true, hst, ho]
    exact ⟨fun _ _ => hs, fun _ _ => by omega, fun _ _ => trivial, hmem, fun _ _ => hside, fun _ _ => rfl⟩
  | true =>
    by_cases hvq : nv = nq
    rotate_left
    · refine con_end2 (calls_plain (R := fun q => ∀ w w' v, q.ok w w' v → (Res.rt 41 4 (vlR s qs vs all).1.length (elsC (vlR s qs vs all).1) [.int .i64 (vlR s qs vs all).2]).ok w w' v) hm Try.func33 (by kernel_rfl) rfl rfl 80 _ _ (vlY s oa oq ov n cap nq cq nv cv all) ⟨fun _ => ⟨?_, nil_ok 50 (by rw [vlR, if_neg (by rw [ho]; simp), if_pos (by omega)])⟩, trivial⟩)
      simp only [hold_cons, hold_nil, and_true, hst, ho]
      exact ⟨fun _ _ => hs, fun _ _ => by omega, fun _ _ => trivial, hmem, fun _ _ => hside, fun _ _ => rfl, fun _ _ => by rw [beq_eq_false_iff_ne.2 (by omega)]; rfl⟩
    refine con_end2 (calls_of_ok (B := bodyOf Try.f33) (n := 85) Try.func33 (by kernel_rfl) rfl rfl (F := F0 w) (fun _ _ h => h) ?_)
    refine xgo_trim hm (F0.mono w) finB 80 _ _ _ _ _ _ (vlS s oa oq ov n cap nq cq nv cv all) (paidCons (fun _ => ⟨?_, ?_⟩) paidNil)
    · simp only [hold_cons, hold_nil, and_true, hst, ho]
      exact ⟨fun _ _ => hs, fun _ _ => by omega, fun _ _ => trivial, hmem, fun _ _ => hside, fun _ _ => rfl, fun _ _ => by rw [hvq]; simp, fun _ _ => ⟨by omega, by omega, by omega, by omega⟩, fun _ _ => ⟨trivial, by omega⟩⟩
    · have hN : stN (nodesC all) = all.length := by rw [stN, hide_eq, hun, if_pos ho]
      have first := vl_loop (w := w) s hs all hw ho (by omega) ov oq nv cv nq cq qs vs hvt hq hv hvq hqb haq hav (fun q => ∀ w w' v, q.ok w w' v → (Res.rt 41 4 (vlR s qs vs all).1.length (elsC (vlR s qs vs all).1) [.int .i64 (vlR s qs vs all).2]).ok w w' v)
        (fun h => nil_ok 50 (by rw [vlR, if_neg (by rw [ho]; simp), if_neg (by omega), h]))
        (fun out h w1 w2 v hv => by
          rw [show vlR s qs vs all = (out, 0) by rw [vlR, if_neg (by rw [ho]; simp), if_neg (by omega), h]]
          exact hv) all [] [] rfl rfl (by simp) rfl
      rw [hN]
      exact Ok.loop (all.length + 2) (by kernel_rfl) (vl_weak s ov oq all.length nv cv nq cq (stC (nodesC all)) 0 (elsC []) 1 2 [] rfl rfl _ _ _ ⟨rfl, rfl, rfl, rfl, rfl, rfl, rfl, rfl, rfl, trivial⟩ rfl rfl first)
noncomputable def gVals : List RV → Option (Res × Prop)
  | [.v (.int .i64 s), .r n cs, .r nq qs, .r nv es] => some (.rt 41 4 (vlN s cs qs es) (vlL s cs qs es) [.int .i64 (vlE s cs qs es)], (s = 0 ∨ s = 1) ∧ cs = nodesC (unNds cs) ∧ (unNds cs).length = n ∧ n ≤ 4000000000000 ∧ (∀ x ∈ unNds cs, x.v < top) ∧ qs = qsC (unQs qs) ∧ (unQs qs).length = nq ∧ nq ≤ 4000000000000 ∧ es = elsC (unEs es) ∧ (unEs es).length = nv ∧ ∀ x ∈ unEs es, x < top)
  | _ => none
theorem gVals_ok (rvs : List RV) (r : Res) (p : Prop) (vs : List Value) (w : World) (hg : gVals rvs = some (r, p)) (hp : p) (hv : RVs (wmem w) rvs vs) : Calls Try.prog 33 vs.toArray w (fun E w' => ∃ v, E = .returned v ∧ r.ok w w' v ∧ Below w.heap.size w w') := by
  unfold gVals at hg
  split at hg
  · simp only [Option.some.injEq, Prod.mk.injEq] at hg
    obtain ⟨rfl, rfl⟩ := hg
    obtain ⟨hs, hc, hn, hb, hw, hqc, hq, hqb, hec, he, het⟩ := hp
    match vs, hv with
    | [x, y, z, u], ⟨h1, ⟨oa, cap, h2, h3⟩, ⟨oq, cq, h4, h5⟩, ⟨ov, cv, h6, h7⟩, _⟩ =>
      rw [h1, h2, h4, h6, vlN, vlL, vlE, hide_eq, hidZ_eq]
      rw [hc] at h3
      rw [hqc] at h5
      rw [hec] at h7
      exact values_ok _ hs oa _ cap _ hw hn hb oq _ cq _ hq hqb ov _ cv _ he het w h3 h5 h7
  · cases hg
noncomputable def L10 : Con Try.prog := L8.add 33 gVals gVals_ok
end Go.Proofs.Ytpghmnpbfaichaa
