/- The texts Z42 .. Z43 of this proof, one behind the other. -/
import Derived.Test.YtpghmnpbfaichaaM3
import Derived.Test.YtpghmnpbfaichaaM1
/- The document's values of nodes. -/
namespace Go.Pl
open Go.Sx
theorem fO_fAd (s : Int) (a : Nat) : fO s a = fAd s a 0 := by
  rw [fO, fAd]
  split
  · rfl
  · rw [fR_eq, fA_eq, Nat.add_zero]
theorem fAd_id (s : Int) (a b : Nat) : fAd s (fAd s a b) 0 = fAd s a b := by
  unfold fAd
  split
  · rfl
  · rw [fA_eq, fA_eq, Nat.add_zero, Nat.mod_mod]
theorem fNg_id (s : Int) (a : Nat) : fAd s (fNg s a) 0 = fNg s a := by
  unfold fAd fNg
  split
  · rfl
  · rw [fA_eq, fN_eq, Nat.add_zero, Nat.mod_mod]
theorem fMu_id (s : Int) (a b : Nat) : fAd s (fMu s a b) 0 = fMu s a b := by
  unfold fAd fMu
  split
  · rfl
  · rw [fA_eq, fM_eq, Nat.add_zero, Nat.mod_mod]
theorem fMu_fO (s : Int) (a b : Nat) : fMu s (fO s a) b = fMu s a b := by
  unfold fMu fO
  split
  · rfl
  · rw [fM_eq, fM_eq, fR_eq, Nat.mod_mul_mod]
theorem fP_in (s : Int) : fP s = 0 ↔ s < 0 ∨ 3 < s := by
  unfold fP
  constructor
  · intro h
    repeat' split at h
    all_goals omega
  · intro h
    rw [if_neg (by omega), if_neg (by omega), if_neg (by omega), if_neg (by omega)]
end Go.Pl
namespace Go.Proofs.Ytpghmnpbfaichaa
open Go.Sx Go.Pl
set_option linter.unusedVariables false
set_option maxRecDepth 100000
theorem ryS (s : Int) (b1 b2 b3 : Bool) (l : List Nd) (qs : List (Int × Int × Int)) (vs : List Nat) (K : List It → St → Prop) (R : SV → List HO → Prop) : W (xwp Try.prog X K41 [] 60 (fxOf Try.f34 [] [⟨[0,1,0,1,1,1,1,1], [0,1,2,3,10,11], []⟩]) [] [.at []] ⟨argsS 0 [.v (.int .i64 s), .x 0 [], .x 1 [], .x 2 []], [.ext b1 (.s false 7 l.length (cN l)), .ext b2 (.s false 3 qs.length (cQ qs)), .ext b3 (.s false 4 vs.length (cE vs))]⟩ K R) = W (bif decide (s < (0 : Int)) then R (SV.tup [SV.v (Value.slice none 0 0), SV.v (vi64 (20 : Int))]) [] else bif decide ((3 : Int) < s) then R (SV.tup [SV.v (Value.slice none 0 0), SV.v (vi64 (20 : Int))]) [] else ∃ (l_1 : List Nd), List.length l = List.length l_1 ∧ IsC (List.length l) 7 (cN l) (cN l_1) ∧ List.length l_1 ≤ 4000000000000 ∧ bif !ordN 0 l_1 then R (SV.tup [SV.v (Value.slice none 0 0), SV.v (vi64 (110 : Int))]) [] else bif !(↑(List.length vs) : Int) == (↑(List.length qs) : Int) then R (SV.tup [SV.v (Value.slice none 0 0), SV.v (vi64 (50 : Int))]) [] else K [It.at [0, 1, 0, 1, 1, 1, 1, 1], It.blk 0, It.at [1, 1, 1, 1, 1, 1]] (St.mk [(0, SV.v (vi64 s)), (1, SV.x 0 []), (2, SV.x 1 []), (3, SV.x 2 []), (10, SV.o 3), (11, SV.v (vi64 (0 : Int)))] [HO.ext b1 (Cell.s false 7 (List.length l) (cN l)), HO.ext b2 (Cell.s false 3 (List.length qs) (cQ qs)), HO.ext b3 (Cell.s false 4 (List.length vs) (cE vs)), HO.rowc 41 4 0 (Ct.lit 4 [])])) := by kernel_rfl
theorem ryL (s : Int) (b1 b2 b3 : Bool) (l : List Nd) (qs : List (Int × Int × Int)) (vs out : List Nat) (n nq nv k M : Nat) (K : List It → St → Prop) (R : SV → List HO → Prop) : W (xwp Try.prog X K41 [] 60 (fxOf Try.f34 [] [⟨[0,1,0,1,1,1,1,1], [0,1,2,3,10,11], []⟩]) [] (.at [0,0,1,0,1,1,1,1,1] :: .rnd [0,0,1,0,1,1,1,1,1] M :: [.blk 0, .at [1, 1, 1, 1, 1, 1]]) ⟨[(0, .v (.int .i64 s)), (1, .x 0 []), (2, .x 1 []), (3, .x 2 []), (10, .o 3), (11, .v (.int .i64 (k : Int)))], [.ext b1 (.s false 7 n (cN l)), .ext b2 (.s false 3 nq (cQ qs)), .ext b3 (.s false 4 nv (cE vs)), .rowc 41 4 k (.fn (cE out))]⟩ K R) = W (bif decide ((↑k : Int) < (↑n : Int)) then (∀ (M : Mem), (0 : Int) ≤ (↑k : Int) ∧ (↑k : Int) < (↑n : Int)) ∧ (∀ (M : Mem), k < n) ∧ (∀ (M : Mem), 0 + 7 ≤ 7) ∧ c1C (eI (gN l k).4) fun (a : Nat) => (∀ (M : Mem), 0 + 4 ≤ 4) ∧ bif (gN l k).1 == (2 : Int) then ∃ (l_1 : List (Int × Int × Int)), nq = List.length l_1 ∧ IsC nq 3 (cQ qs) (cQ l_1) ∧ List.length l_1 ≤ 4398046511104 ∧ bif decide (idxF (sameQ (gN l k).1 (gN l k).2 (gN l k).3) 0 l_1 < (0 : Int)) then R (SV.tup [SV.v (Value.slice none 0 0), SV.v (vi64 (50 : Int))]) [] else (∀ (M : Mem), (0 : Int) ≤ idxF (sameQ (gN l k).1 (gN l k).2 (gN l k).3) 0 l_1 ∧ idxF (sameQ (gN l k).1 (gN l k).2 (gN l k).3) 0 l_1 < (↑nv : Int)) ∧ (∀ (M : Mem), Int.toNat (idxF (sameQ (gN l k).1 (gN l k).2 (gN l k).3) 0 l_1) < nv) ∧ c1C (eI (gE vs (Int.toNat (idxF (sameQ (gN l k).1 (gN l k).2 (gN l k).3) 0 l_1)))) fun (a : Nat) => (∀ (M : Mem), 0 + 4 ≤ 4) ∧ (∀ (M : Mem), (k + 1) * 32 ≤ 140737488355328 ∧ k + 1 ≤ 140737488355328) ∧ K [It.rnd [0, 0, 1, 0, 1, 1, 1, 1, 1] M, It.blk 0, It.at [1, 1, 1, 1, 1, 1]] (St.mk [(0, SV.v (vi64 s)), (1, SV.x 0 []), (2, SV.x 1 []), (3, SV.x 2 []), (10, SV.o 3), (11, SV.v (vi64 (IntKind.wrap IntKind.i64 ((↑k : Int) + (1 : Int)))))] [HO.ext b1 (Cell.s false 7 n (cN l)), HO.ext b2 (Cell.s false 3 nq (cQ qs)), HO.ext b3 (Cell.s false 4 nv (cE vs)), HO.rowc 41 4 (k + 1) (Ct.app k (Ct.fn (cE out)) (Ct.lit 4 [Cell.v (vu64 (↑(limb (fO s a) 0) : Int)), Cell.v (vu64 (↑(limb (fO s a) 1) : Int)), Cell.v (vu64 (↑(limb (fO s a) 2) : Int)), Cell.v (vu64 (↑(limb (fO s a) 3) : Int))]))]) else bif (gN l k).1 == (3 : Int) then ∃ (l_1 : List (Int × Int × Int)), nq = List.length l_1 ∧ IsC nq 3 (cQ qs) (cQ l_1) ∧ List.length l_1 ≤ 4398046511104 ∧ bif decide (idxF (sameQ (gN l k).1 (gN l k).2 (gN l k).3) 0 l_1 < (0 : Int)) then R (SV.tup [SV.v (Value.slice none 0 0), SV.v (vi64 (50 : Int))]) [] else (∀ (M : Mem), (0 : Int) ≤ idxF (sameQ (gN l k).1 (gN l k).2 (gN l k).3) 0 l_1 ∧ idxF (sameQ (gN l k).1 (gN l k).2 (gN l k).3) 0 l_1 < (↑nv : Int)) ∧ (∀ (M : Mem), Int.toNat (idxF (sameQ (gN l k).1 (gN l k).2 (gN l k).3) 0 l_1) < nv) ∧ c1C (eI (gE vs (Int.toNat (idxF (sameQ (gN l k).1 (gN l k).2 (gN l k).3) 0 l_1)))) fun (a : Nat) => (∀ (M : Mem), 0 + 4 ≤ 4) ∧ (∀ (M : Mem), (k + 1) * 32 ≤ 140737488355328 ∧ k + 1 ≤ 140737488355328) ∧ K [It.rnd [0, 0, 1, 0, 1, 1, 1, 1, 1] M, It.blk 0, It.at [1, 1, 1, 1, 1, 1]] (St.mk [(0, SV.v (vi64 s)), (1, SV.x 0 []), (2, SV.x 1 []), (3, SV.x 2 []), (10, SV.o 3), (11, SV.v (vi64 (IntKind.wrap IntKind.i64 ((↑k : Int) + (1 : Int)))))] [HO.ext b1 (Cell.s false 7 n (cN l)), HO.ext b2 (Cell.s false 3 nq (cQ qs)), HO.ext b3 (Cell.s false 4 nv (cE vs)), HO.rowc 41 4 (k + 1) (Ct.app k (Ct.fn (cE out)) (Ct.lit 4 [Cell.v (vu64 (↑(limb (fO s a) 0) : Int)), Cell.v (vu64 (↑(limb (fO s a) 1) : Int)), Cell.v (vu64 (↑(limb (fO s a) 2) : Int)), Cell.v (vu64 (↑(limb (fO s a) 3) : Int))]))]) else bif (gN l k).1 == (4 : Int) then ∃ (l_1 : List (Int × Int × Int)), nq = List.length l_1 ∧ IsC nq 3 (cQ qs) (cQ l_1) ∧ List.length l_1 ≤ 4398046511104 ∧ bif decide (idxF (sameQ (gN l k).1 (gN l k).2 (gN l k).3) 0 l_1 < (0 : Int)) then R (SV.tup [SV.v (Value.slice none 0 0), SV.v (vi64 (50 : Int))]) [] else (∀ (M : Mem), (0 : Int) ≤ idxF (sameQ (gN l k).1 (gN l k).2 (gN l k).3) 0 l_1 ∧ idxF (sameQ (gN l k).1 (gN l k).2 (gN l k).3) 0 l_1 < (↑nv : Int)) ∧ (∀ (M : Mem), Int.toNat (idxF (sameQ (gN l k).1 (gN l k).2 (gN l k).3) 0 l_1) < nv) ∧ c1C (eI (gE vs (Int.toNat (idxF (sameQ (gN l k).1 (gN l k).2 (gN l k).3) 0 l_1)))) fun (a : Nat) => (∀ (M : Mem), 0 + 4 ≤ 4) ∧ (∀ (M : Mem), (k + 1) * 32 ≤ 140737488355328 ∧ k + 1 ≤ 140737488355328) ∧ K [It.rnd [0, 0, 1, 0, 1, 1, 1, 1, 1] M, It.blk 0, It.at [1, 1, 1, 1, 1, 1]] (St.mk [(0, SV.v (vi64 s)), (1, SV.x 0 []), (2, SV.x 1 []), (3, SV.x 2 []), (10, SV.o 3), (11, SV.v (vi64 (IntKind.wrap IntKind.i64 ((↑k : Int) + (1 : Int)))))] [HO.ext b1 (Cell.s false 7 n (cN l)), HO.ext b2 (Cell.s false 3 nq (cQ qs)), HO.ext b3 (Cell.s false 4 nv (cE vs)), HO.rowc 41 4 (k + 1) (Ct.app k (Ct.fn (cE out)) (Ct.lit 4 [Cell.v (vu64 (↑(limb (fO s a) 0) : Int)), Cell.v (vu64 (↑(limb (fO s a) 1) : Int)), Cell.v (vu64 (↑(limb (fO s a) 2) : Int)), Cell.v (vu64 (↑(limb (fO s a) 3) : Int))]))]) else bif (gN l k).1 == (5 : Int) then (∀ (M : Mem), (0 : Int) ≤ (gN l k).2 ∧ (gN l k).2 < (↑k : Int)) ∧ (∀ (M : Mem), Int.toNat (gN l k).2 < k) ∧ c1C (eI (gE out (Int.toNat (gN l k).2))) fun (a : Nat) => (∀ (M : Mem), 0 + 4 ≤ 4) ∧ (∀ (M : Mem), (k + 1) * 32 ≤ 140737488355328 ∧ k + 1 ≤ 140737488355328) ∧ K [It.rnd [0, 0, 1, 0, 1, 1, 1, 1, 1] M, It.blk 0, It.at [1, 1, 1, 1, 1, 1]] (St.mk [(0, SV.v (vi64 s)), (1, SV.x 0 []), (2, SV.x 1 []), (3, SV.x 2 []), (10, SV.o 3), (11, SV.v (vi64 (IntKind.wrap IntKind.i64 ((↑k : Int) + (1 : Int)))))] [HO.ext b1 (Cell.s false 7 n (cN l)), HO.ext b2 (Cell.s false 3 nq (cQ qs)), HO.ext b3 (Cell.s false 4 nv (cE vs)), HO.rowc 41 4 (k + 1) (Ct.app k (Ct.fn (cE out)) (Ct.lit 4 [Cell.v (vu64 (↑(limb (fNg s a) 0) : Int)), Cell.v (vu64 (↑(limb (fNg s a) 1) : Int)), Cell.v (vu64 (↑(limb (fNg s a) 2) : Int)), Cell.v (vu64 (↑(limb (fNg s a) 3) : Int))]))]) else bif (gN l k).1 == (6 : Int) then (∀ (M : Mem), (0 : Int) ≤ (gN l k).2 ∧ (gN l k).2 < (↑k : Int)) ∧ (∀ (M : Mem), Int.toNat (gN l k).2 < k) ∧ (∀ (M : Mem), (0 : Int) ≤ (gN l k).3 ∧ (gN l k).3 < (↑k : Int)) ∧ (∀ (M : Mem), Int.toNat (gN l k).3 < k) ∧ c2C (eI (gE out (Int.toNat (gN l k).2))) (eI (gE out (Int.toNat (gN l k).3))) fun (a b : Nat) => (∀ (M : Mem), 0 + 4 ≤ 4) ∧ (∀ (M : Mem), (k + 1) * 32 ≤ 140737488355328 ∧ k + 1 ≤ 140737488355328) ∧ K [It.rnd [0, 0, 1, 0, 1, 1, 1, 1, 1] M, It.blk 0, It.at [1, 1, 1, 1, 1, 1]] (St.mk [(0, SV.v (vi64 s)), (1, SV.x 0 []), (2, SV.x 1 []), (3, SV.x 2 []), (10, SV.o 3), (11, SV.v (vi64 (IntKind.wrap IntKind.i64 ((↑k : Int) + (1 : Int)))))] [HO.ext b1 (Cell.s false 7 n (cN l)), HO.ext b2 (Cell.s false 3 nq (cQ qs)), HO.ext b3 (Cell.s false 4 nv (cE vs)), HO.rowc 41 4 (k + 1) (Ct.app k (Ct.fn (cE out)) (Ct.lit 4 [Cell.v (vu64 (↑(limb (fAd s a b) 0) : Int)), Cell.v (vu64 (↑(limb (fAd s a b) 1) : Int)), Cell.v (vu64 (↑(limb (fAd s a b) 2) : Int)), Cell.v (vu64 (↑(limb (fAd s a b) 3) : Int))]))]) else bif (gN l k).1 == (7 : Int) then (∀ (M : Mem), (0 : Int) ≤ (gN l k).2 ∧ (gN l k).2 < (↑k : Int)) ∧ (∀ (M : Mem), Int.toNat (gN l k).2 < k) ∧ (∀ (M : Mem), (0 : Int) ≤ (gN l k).3 ∧ (gN l k).3 < (↑k : Int)) ∧ (∀ (M : Mem), Int.toNat (gN l k).3 < k) ∧ c2C (eI (gE out (Int.toNat (gN l k).2))) (eI (gE out (Int.toNat (gN l k).3))) fun (a b : Nat) => (∀ (M : Mem), 0 + 4 ≤ 4) ∧ (∀ (M : Mem), (k + 1) * 32 ≤ 140737488355328 ∧ k + 1 ≤ 140737488355328) ∧ K [It.rnd [0, 0, 1, 0, 1, 1, 1, 1, 1] M, It.blk 0, It.at [1, 1, 1, 1, 1, 1]] (St.mk [(0, SV.v (vi64 s)), (1, SV.x 0 []), (2, SV.x 1 []), (3, SV.x 2 []), (10, SV.o 3), (11, SV.v (vi64 (IntKind.wrap IntKind.i64 ((↑k : Int) + (1 : Int)))))] [HO.ext b1 (Cell.s false 7 n (cN l)), HO.ext b2 (Cell.s false 3 nq (cQ qs)), HO.ext b3 (Cell.s false 4 nv (cE vs)), HO.rowc 41 4 (k + 1) (Ct.app k (Ct.fn (cE out)) (Ct.lit 4 [Cell.v (vu64 (↑(limb (fMu s a b) 0) : Int)), Cell.v (vu64 (↑(limb (fMu s a b) 1) : Int)), Cell.v (vu64 (↑(limb (fMu s a b) 2) : Int)), Cell.v (vu64 (↑(limb (fMu s a b) 3) : Int))]))]) else bif (gN l k).1 == (8 : Int) then (∀ (M : Mem), (0 : Int) ≤ (gN l k).2 ∧ (gN l k).2 < (↑k : Int)) ∧ (∀ (M : Mem), Int.toNat (gN l k).2 < k) ∧ c2C (eI (fO s a)) (eI (gE out (Int.toNat (gN l k).2))) fun (a b : Nat) => (∀ (M : Mem), 0 + 4 ≤ 4) ∧ (∀ (M : Mem), (k + 1) * 32 ≤ 140737488355328 ∧ k + 1 ≤ 140737488355328) ∧ K [It.rnd [0, 0, 1, 0, 1, 1, 1, 1, 1] M, It.blk 0, It.at [1, 1, 1, 1, 1, 1]] (St.mk [(0, SV.v (vi64 s)), (1, SV.x 0 []), (2, SV.x 1 []), (3, SV.x 2 []), (10, SV.o 3), (11, SV.v (vi64 (IntKind.wrap IntKind.i64 ((↑k : Int) + (1 : Int)))))] [HO.ext b1 (Cell.s false 7 n (cN l)), HO.ext b2 (Cell.s false 3 nq (cQ qs)), HO.ext b3 (Cell.s false 4 nv (cE vs)), HO.rowc 41 4 (k + 1) (Ct.app k (Ct.fn (cE out)) (Ct.lit 4 [Cell.v (vu64 (↑(limb (fMu s a b) 0) : Int)), Cell.v (vu64 (↑(limb (fMu s a b) 1) : Int)), Cell.v (vu64 (↑(limb (fMu s a b) 2) : Int)), Cell.v (vu64 (↑(limb (fMu s a b) 3) : Int))]))]) else (∀ (M : Mem), (k + 1) * 32 ≤ 140737488355328 ∧ k + 1 ≤ 140737488355328) ∧ K [It.rnd [0, 0, 1, 0, 1, 1, 1, 1, 1] M, It.blk 0, It.at [1, 1, 1, 1, 1, 1]] (St.mk [(0, SV.v (vi64 s)), (1, SV.x 0 []), (2, SV.x 1 []), (3, SV.x 2 []), (10, SV.o 3), (11, SV.v (vi64 (IntKind.wrap IntKind.i64 ((↑k : Int) + (1 : Int)))))] [HO.ext b1 (Cell.s false 7 n (cN l)), HO.ext b2 (Cell.s false 3 nq (cQ qs)), HO.ext b3 (Cell.s false 4 nv (cE vs)), HO.rowc 41 4 (k + 1) (Ct.app k (Ct.fn (cE out)) (Ct.lit 4 [Cell.v (vu64 (↑(limb (fO s a) 0) : Int)), Cell.v (vu64 (↑(limb (fO s a) 1) : Int)), Cell.v (vu64 (↑(limb (fO s a) 2) : Int)), Cell.v (vu64 (↑(limb (fO s a) 3) : Int))]))]) else R (SV.tup [SV.o 0, SV.v (vi64 (0 : Int))]) [HO.rowc 41 4 k (Ct.fn (cE out))]) := by kernel_rfl
theorem ry_loop (s : Int) (b1 b2 b3 : Bool) (all : List Nd) (qs : List (Int × Int × Int)) (vs : List Nat) (hb : all.length ≤ 4000000000000) (hbq : qs.length ≤ 4398046511104) (ho : ordN 0 all = true) (hl : vs.length = qs.length) (ht : ∀ x ∈ all, x.v < top) (hv : ∀ v ∈ vs, v < top) (Q : SV → List HO → Prop)
    (hq : ∀ out, valsN s qs vs [] all = some out → Q (.tup [.o 0, .v (.int .i64 0)]) [.rowc 41 4 out.length (.fn (cE out))]) (hn : valsN s qs vs [] all = none → Q (.tup [.v (.slice none 0 0), .v (.int .i64 50)]) []) :
    ∀ (d k : Nat) (out : List Nat), k + d = all.length → out.length = k → (∀ z ∈ out, z < top) → valsN s qs vs [] all = valsN s qs vs out (all.drop k) →
    FOk Try.prog Try.f34 Q (.rnd [0,0,1,0,1,1,1,1,1] (d + 1) :: [.blk 0, .at [1, 1, 1, 1, 1, 1]]) ⟨[(0, .v (.int .i64 s)), (1, .x 0 []), (2, .x 1 []), (3, .x 2 []), (10, .o 3), (11, .v (.int .i64 (k : Int)))], [.ext b1 (.s false 7 all.length (cN all)), .ext b2 (.s false 3 qs.length (cQ qs)), .ext b3 (.s false 4 vs.length (cE vs)), .rowc 41 4 k (.fn (cE out))]⟩
  | 0, k, out, hd, hk, hz, he => by
    refine FOk.rnd (run_sound hm 60 ((ryL s b1 b2 b3 all qs vs out all.length qs.length vs.length k 0 _ _).mpr ⟨?_⟩))
    rw [cond_dec, if_neg (by omega)]
    rw [show k = all.length by omega, List.drop_length, valsN] at he
    have := hq out he
    rw [hk] at this
    exact this
  | d + 1, k, out, hd, hk, hz, he => by
    have hka : k < all.length := by omega
    rw [drop_gN hka] at he
    have hop := ordN_op all 0 ho _ (gN_mem hka)
    have hus := okN_iff k (gN all k)
    have hok : okN k (gN all k) = true := ordN_get ho k (gN all k) (by rw [gN, List.getD_eq_getElem?_getD, List.getElem?_eq_getElem hka]; rfl)
    rw [hok] at hus
    have hus := hus.1 rfl
    have yes : ∀ z w, valD s qs vs out (gN all k) = some z → w = fAd s z 0 → FOk Try.prog Try.f34 Q (.rnd [0,0,1,0,1,1,1,1,1] (d + 1) :: [.blk 0, .at [1, 1, 1, 1, 1, 1]]) ⟨[(0, .v (.int .i64 s)), (1, .x 0 []), (2, .x 1 []), (3, .x 2 []), (10, .o 3), (11, .v (.int .i64 (IntKind.wrap .i64 ((k : Int) + 1))))], [.ext b1 (.s false 7 all.length (cN all)), .ext b2 (.s false 3 qs.length (cQ qs)), .ext b3 (.s false 4 vs.length (cE vs)), .rowc 41 4 (k + 1) (.app k (.fn (cE out)) (.lit 4 (eC w)))]⟩ := fun z w hz' hw => by
      rw [wrap_inc _ (by omega), hw]
      rw [valsN_some hz'] at he
      refine FOk.cv (ry_loop s b1 b2 b3 all qs vs hb hbq ho hl ht hv Q hq hn d (k + 1) (out ++ [fAd s z 0]) (by omega) (by simp [hk]) (fun y hy => ?_) he) ⟨HE.refl _, HE.refl _, HE.refl _, ⟨rfl, rfl, rfl, cE_snoc _ hk⟩, trivial⟩
      rcases List.mem_append.1 hy with h | h
      · exact hz y h
      · rw [List.mem_singleton] at h; rw [h]; exact fAd_top s z 0
    have qcase : 2 ≤ (gN all k).op ∧ (gN all k).op ≤ 4 → ∀ Z : Prop, (∀ i : Int, 0 ≤ i → i < (vs.length : Int) → valD s qs vs out (gN all k) = some (gE vs i.toNat) → i = idxF (sameQ (gN all k).op (gN all k).a (gN all k).b) 0 qs → Z) → if idxF (sameQ (gN all k).op (gN all k).a (gN all k).b) 0 qs < 0 then Q (.tup [.v (.slice none 0 0), .v (.int .i64 50)]) [] else Z := fun h Z hZ => by
      have hD := valD_q s qs vs out h
      have hlt := idxF_lt (sameQ (gN all k).op (gN all k).a (gN all k).b) qs 0
      refine ite_intro (fun hi => ?_) (fun hi => ?_)
      · rw [if_pos hi] at hD
        rw [valsN_none hD] at he
        exact hn he
      · rw [if_neg hi] at hD
        exact hZ _ (by omega) (by omega) hD rfl
    refine FOk.rnd (run_sound hm 60 ((ryL s b1 b2 b3 all qs vs out all.length qs.length vs.length k (d + 1) _ _).mpr ⟨?_⟩))
    simp only [cond_dec, cond_beq]
    rw [if_pos (by omega)]
    refine And.intro (fun _ => by omega) (And.intro (fun _ => by omega) (And.intro (fun _ => by omega) (c1C_mk _ (gN_top ht k) (And.intro (fun _ => by omega) ?_))))
    refine ite_intro (fun h => ?_) (fun h2 => ite_intro (fun h => ?_) (fun h3 => ite_intro (fun h => ?_) (fun h4 => ite_intro (fun h => ?_) (fun h5 => ite_intro (fun h => ?_) (fun h6 => ite_intro (fun h => ?_) (fun h7 => ite_intro (fun h => ?_) (fun h8 => ?_)))))))
    · refine ⟨qs, rfl, IsC.refl _ _ _, hbq, qcase (by omega) _ fun i i0 i1 hD hi => ?_⟩
      rw [← hi]
      refine And.intro (fun _ => by omega) (And.intro (fun _ => by omega) (c1C_mk _ (gE_top hv _) ?_))
      exact And.intro (fun _ => by omega) (And.intro (fun _ => by omega) (yes _ _ hD (fO_fAd s _)))
    · refine ⟨qs, rfl, IsC.refl _ _ _, hbq, qcase (by omega) _ fun i i0 i1 hD hi => ?_⟩
      rw [← hi]
      refine And.intro (fun _ => by omega) (And.intro (fun _ => by omega) (c1C_mk _ (gE_top hv _) ?_))
      exact And.intro (fun _ => by omega) (And.intro (fun _ => by omega) (yes _ _ hD (fO_fAd s _)))
    · refine ⟨qs, rfl, IsC.refl _ _ _, hbq, qcase (by omega) _ fun i i0 i1 hD hi => ?_⟩
      rw [← hi]
      refine And.intro (fun _ => by omega) (And.intro (fun _ => by omega) (c1C_mk _ (gE_top hv _) ?_))
      exact And.intro (fun _ => by omega) (And.intro (fun _ => by omega) (yes _ _ hD (fO_fAd s _)))
    · refine And.intro (fun _ => by omega) (And.intro (fun _ => by omega) (c1C_mk _ (gE_top hz _) ?_))
      exact And.intro (fun _ => by omega) (And.intro (fun _ => by omega) (yes _ _ (valD_n s qs vs out h) (fNg_id s _).symm))
    · refine And.intro (fun _ => by omega) (And.intro (fun _ => by omega) (And.intro (fun _ => by omega) (And.intro (fun _ => by omega) (c2C_mk _ _ (gE_top hz _) (gE_top hz _) ?_))))
      exact And.intro (fun _ => by omega) (And.intro (fun _ => by omega) (yes _ _ (valD_a s qs vs out h) (fAd_id s _ _).symm))
    · refine And.intro (fun _ => by omega) (And.intro (fun _ => by omega) (And.intro (fun _ => by omega) (And.intro (fun _ => by omega) (c2C_mk _ _ (gE_top hz _) (gE_top hz _) ?_))))
      exact And.intro (fun _ => by omega) (And.intro (fun _ => by omega) (yes _ _ (valD_m s qs vs out h) (fMu_id s _ _).symm))
    · refine And.intro (fun _ => by omega) (And.intro (fun _ => by omega) (c2C_mk _ _ (fO_top s _) (gE_top hz _) ?_))
      exact And.intro (fun _ => by omega) (And.intro (fun _ => by omega) (yes _ _ (valD_s s qs vs out h) ((fMu_fO s _ _).trans (fMu_id s _ _).symm)))
    · exact And.intro (fun _ => by omega) (yes _ _ (valD_c s qs vs out (by omega)) (fO_fAd s _))
theorem bRy : Try.f34.body.isSome = true := by kernel_rfl
theorem nRy (s : Int) : Nat.ble [SV.v (.int .i64 s), .x 0 [], .x 1 [], .x 2 []].length Try.f34.ntmps = true := by kernel_rfl
theorem rvalues_ok (s : Int) (b1 b2 b3 : Bool) (l : List Nd) (qs : List (Int × Int × Int)) (vs : List Nat) (hb : l.length ≤ 4000000000000) (hbq : qs.length ≤ 4398046511104) (ht : ∀ x ∈ l, x.v < top) (hv : ∀ v ∈ vs, v < top) (Q : SV → List HO → Prop)
    (hq : Q (.tup [.o 0, .v (.int .i64 (vlR s qs vs l).2)]) [.rowc 41 4 (vlR s qs vs l).1.length (.fn (cE (vlR s qs vs l).1))]) : FnOk Try.prog 34 [.v (.int .i64 s), .x 0 [], .x 1 [], .x 2 []] [.ext b1 (.s false 7 l.length (cN l)), .ext b2 (.s false 3 qs.length (cQ qs)), .ext b3 (.s false 4 vs.length (cE vs))] Q := by
  refine FnOk.mono (FnOk.eqv (r0 := .tup [.o 0, .v (.int .i64 (vlR s qs vs l).2)]) (h0 := [.rowc 41 4 (vlR s qs vs l).1.length (.fn (cE (vlR s qs vs l).1))]) ?_) (fun r h' hh => by rw [hh.1, hh.2]; exact hq)
  refine FnOk.nilT 41 4 (fn_of_ok Try.func34 bRy ?_ ?_)
  · exact nRy s
  refine run_sound hm 60 ((ryS s b1 b2 b3 l qs vs _ _).mpr ⟨?_⟩)
  have bad : ∀ e : Int, vlR s qs vs l = ([], e) → (fun r h' => (r = SV.tup [.o 0, .v (.int .i64 (vlR s qs vs l).2)] ∧ HEs h' [.rowc 41 4 (vlR s qs vs l).1.length (.fn (cE (vlR s qs vs l).1))]) ∨ (∃ y, r = .tup [.v (.slice none 0 0), .v y] ∧ h' = [] ∧ (SV.tup [.o 0, .v y] = SV.tup [.o 0, .v (.int .i64 (vlR s qs vs l).2)] ∧ HEs [HO.rowc 41 4 0 (.lit 1 [])] [.rowc 41 4 (vlR s qs vs l).1.length (.fn (cE (vlR s qs vs l).1))]))) (SV.tup [SV.v (Value.slice none 0 0), SV.v (vi64 e)]) [] := fun e he => by
    rw [he]
    exact .inr ⟨_, rfl, rfl, rfl, ⟨rfl, rfl, rfl, fun k hk => by omega⟩, trivial⟩
  rw [cond_dec]
  refine ite_intro (fun h0 => bad 20 (by rw [vlR, if_pos ((fP_in s).2 (.inl h0))])) (fun h0 => ?_)
  rw [cond_dec]
  refine ite_intro (fun h1 => bad 20 (by rw [vlR, if_pos ((fP_in s).2 (.inr h1))])) (fun h1 => ?_)
  have hs : fP s ≠ 0 := fun h => by rcases (fP_in s).1 h with h | h <;> omega
  refine ⟨l, rfl, IsC.refl _ _ _, hb, ?_⟩
  rw [cond_not]
  refine cond_intro (fun ho => ?_) (fun ho => ?_)
  · rw [cond_not, cond_beq]
    refine ite_intro (fun hl => ?_) (fun hl => ?_)
    · have hl : vs.length = qs.length := by omega
      refine FOk.loop (l.length + 1) (by kernel_rfl) (FOk.cv (ry_loop s b1 b2 b3 l qs vs hb hbq ho hl ht hv _ (fun out hout => ?_) (fun hnone => ?_) l.length 0 [] (by omega) rfl (by simp) rfl) ⟨HE.refl _, HE.refl _, HE.refl _, ⟨rfl, rfl, rfl, fun k hk => by omega⟩, trivial⟩)
      · have e : vlR s qs vs l = (out, 0) := by rw [vlR, if_neg hs, if_neg (by rw [ho]; simp), if_neg (by omega), hout]
        rw [e]
        exact .inl ⟨rfl, HEs.refl _⟩
      · exact bad 50 (by rw [vlR, if_neg hs, if_neg (by rw [ho]; simp), if_neg (by omega), hnone])
    · exact bad 50 (by rw [vlR, if_neg hs, if_neg (by rw [ho]; simp), if_pos (by omega)])
  · exact bad 110 (by rw [vlR, if_neg hs, if_pos ho])
noncomputable def gRy : List SV → List HO → Option ((SV → List HO → Prop) → Prop)
  | [.v (.int .i64 s), .x 0 [], .x 1 [], .x 2 []], [.ext _ (.s false 7 n cn), .ext _ (.s false 3 nq cq), .ext _ (.s false 4 nv cv)] => some fun Q => vlC n nq nv cn cq cv fun l qs vs => l.length ≤ 4000000000000 ∧ Q (.tup [.o 0, .v (.int .i64 (vlR s qs vs l).2)]) [.rowc 41 4 (vlR s qs vs l).1.length (.fn (cE (vlR s qs vs l).1))]
  | _, _ => none
theorem gRy_ok (args : List SV) (h : List HO) (tr : (SV → List HO → Prop) → Prop) (Q : SV → List HO → Prop) (hc : gRy args h = some tr) (ht : tr Q) : FnOk Try.prog 34 args h Q := by
  unfold gRy at hc
  split at hc
  · rename_i s b1 n cn b2 nq cq b3 nv cv
    simp only [Option.some.injEq] at hc
    subst hc
    obtain ⟨l, qs, vs, rfl, h1, rfl, h2, rfl, h3, hb, hbq, hx, hv, hb2, hq⟩ := ht.h
    exact FnOk.ac (rvalues_ok s b1 b2 b3 l qs vs hb2 hbq hx hv Q hq) ⟨⟨rfl, rfl, rfl, rfl, h1⟩, ⟨rfl, rfl, rfl, rfl, h2⟩, ⟨rfl, rfl, rfl, rfl, h3⟩, trivial⟩
  · cases hc
noncomputable def K42 : Con Try.prog := K41.add 34 gRy gRy_ok
end Go.Proofs.Ytpghmnpbfaichaa
/- A row of one's own that is given up: from now on it is frozen memory. -/
namespace Go.Sx
open Go.RowKit
mutual
def frzS (i n : Nat) : SV → SV
  | .o j => bif Nat.beq j i then .x n [] else .o j
  | .agg cs => .agg (frzL i n cs)
  | .tup cs => .tup (frzL i n cs)
  | .fn f a c => .fn f (frzL i n a) (frzL i n c)
  | .ifc t y => .ifc t (frzS i n y)
  | .v x => .v x
  | .bl b => .bl b
  | .p j off => .p j off
  | .q j off => .q j off
  | .m j => .m j
  | .sl j off len cap => .sl j off len cap
  | .x j p => .x j p
  | .xp j p sz k c => .xp j p sz k c
  | .qk j sz k c => .qk j sz k c
def frzL (i n : Nat) : List SV → List SV
  | [] => []
  | x :: r => frzS i n x :: frzL i n r
end
mutual
theorem den_frz (i n : Nat) (e : Env) (h : e.val n [] = e.row i) : ∀ s, den e (frzS i n s) = den e s
  | .o j => by
    simp only [frzS]
    cases hb : Nat.beq j i with
    | true => rw [cond_true, den, den, h, Nat.eq_of_beq_eq_true hb]
    | false => rfl
  | .agg cs => by simp only [frzS, den, denL_frz i n e h cs]
  | .tup cs => by simp only [frzS, den, denL_frz i n e h cs]
  | .fn f a c => by simp only [frzS, den, denL_frz i n e h a, denL_frz i n e h c]
  | .ifc t y => by simp only [frzS, den, den_frz i n e h y]
  | .v x => rfl
  | .bl b => rfl
  | .p j off => rfl
  | .q j off => rfl
  | .m j => rfl
  | .sl j off len cap => rfl
  | .x j p => rfl
  | .xp j p sz k c => rfl
  | .qk j sz k c => rfl
theorem denL_frz (i n : Nat) (e : Env) (h : e.val n [] = e.row i) : ∀ l, denL e (frzL i n l) = denL e l
  | [] => rfl
  | x :: r => by simp only [frzL, denL, den_frz i n e h x, denL_frz i n e h r]
end
mutual
theorem ws_frz (i n m : Nat) (h : n < m) : ∀ s, ws m s → ws m (frzS i n s)
  | .o j, hs => by
    simp only [frzS]
    cases Nat.beq j i with
    | true => exact h
    | false => exact hs
  | .agg cs, hs => wsL_frz i n m h cs hs
  | .tup cs, hs => wsL_frz i n m h cs hs
  | .fn f a c, hs => ⟨wsL_frz i n m h a hs.1, wsL_frz i n m h c hs.2⟩
  | .ifc t y, hs => ws_frz i n m h y hs
  | .v x, _ => trivial
  | .bl b, _ => trivial
  | .p j off, hs => hs
  | .q j off, hs => hs
  | .m j, hs => hs
  | .sl j off len cap, hs => hs
  | .x j p, hs => hs
  | .xp j p sz k c, hs => hs
  | .qk j sz k c, hs => hs
theorem wsL_frz (i n m : Nat) (h : n < m) : ∀ l, wsL m l → wsL m (frzL i n l)
  | [], _ => trivial
  | x :: r, hs => ⟨ws_frz i n m h x hs.1, wsL_frz i n m h r hs.2⟩
end
def frzT (i n : Nat) : List (Nat × SV) → List (Nat × SV)
  | [] => []
  | (t, s) :: r => (t, frzS i n s) :: frzT i n r
theorem lk_frzT (i n : Nat) : ∀ (l : List (Nat × SV)) {t : Nat} {s : SV}, lk (frzT i n l) t = some s → ∃ s0, lk l t = some s0 ∧ s = frzS i n s0
  | [], t, s, h => by cases h
  | (u, x) :: r, t, s, h => by
    simp only [frzT, lk] at h ⊢
    cases hb : Nat.beq u t with
    | true =>
      rw [hb] at h
      simp only [cond_true, Option.some.injEq] at h
      exact ⟨x, rfl, h.symm⟩
    | false =>
      rw [hb] at h
      exact lk_frzT i n r h
theorem FOk.frz {P : Program} {m : Nat} {fn : Func} {Q : SV → List HO → Prop} {k : List It} {tm : List (Nat × SV)} {h : List HO} (i : Nat) {T : TypeId} {sz n : Nat} {c : Ct} (hi : h[i]? = some (.rowc T sz n c))
    (hk : FOkM P m fn Q k ⟨frzT i h.length tm, h.set i .gone ++ [.ext false (.s false sz n c.at)]⟩) : FOkM P m fn Q k ⟨tm, h⟩ := by
  intro F hF w0 hw0 e a w S T0
  have hlt := (List.getElem?_eq_some_iff.1 hi).1
  obtain ⟨S1, hle⟩ := S.drop hF i hlt
  obtain ⟨vals, h1, _, h2⟩ := S.sat i _ hi
  obtain ⟨f, f1, f2, f3⟩ := S.frozen hi rfl h1 hle h2
  have S2 := S1.newExt hF false (.s false sz n c.at) f f1 (by simpa using f3)
  rw [List.length_set] at S2
  have hag := agree_setV e h.length f f1
  have hv : (e.setV h.length f f1).val h.length [] = (e.setV h.length f f1).row i := by
    have : (e.setV h.length f f1).val h.length = f := by simp [Env.setV]
    rw [this, f2]; rfl
  refine hk F hF w0 hw0 _ a w S2 ⟨T0.size, T0.defers, fun t s hs => ?_, fun t s hs => ?_⟩
  · obtain ⟨s0, q1, rfl⟩ := lk_frzT i _ tm hs
    rw [den_frz i _ _ hv, T0.get t s0 q1, den_agree hag s0 (T0.wsc t s0 q1)]
  · obtain ⟨s0, q1, rfl⟩ := lk_frzT i _ tm hs
    have hl : (h.set i HO.gone ++ [HO.ext false (.s false sz n c.at)]).length = h.length + 1 := by simp
    show ws (h.set i HO.gone ++ [HO.ext false (.s false sz n c.at)]).length _
    rw [hl]
    exact ws_frz i _ _ (Nat.lt_succ_self _) s0 (ws_mono (Nat.le_succ _) s0 (T0.wsc t s0 q1))
end Go.Sx
/- ExprValues: the walk. -/
namespace Go.Pl
open Go.Sx
theorem cE_step {l : List Nat} {k : Nat} {c : Nat → Nat → Cell} (z : Nat) (h : l.length = k) (hc : IsC k 4 c (cE l)) : IsC (k + 1) 4 (appC k c (lc 4 (eC z))) (cE (l ++ [z])) :=
  IsC.trans (IsC.app hc (IsC.refl 1 4 _)) (cE_snoc z h)
theorem cE_spare (l : List Nat) : IsC (l.length + 1 + 1 + 1 + 1) 4 (appC (l.length + 1 + 1 + 1) (appC (l.length + 1 + 1) (appC (l.length + 1) (appC l.length (cE l) (lc 4 (eC 901))) (lc 4 (eC 902))) (lc 4 (eC 903))) (lc 4 (eC 904))) (cE (l ++ [901, 902, 903, 904])) := by
  have := cE_step 904 (l := ((l ++ [901]) ++ [902]) ++ [903]) (by simp) (cE_step 903 (l := (l ++ [901]) ++ [902]) (by simp) (cE_step 902 (l := l ++ [901]) (by simp) (cE_step 901 (l := l) rfl (IsC.refl _ _ _))))
  simpa using this
theorem cE_lit901 : [Cell.v (vu64 (901 : Int)), Cell.v (vu64 (0 : Int)), Cell.v (vu64 (0 : Int)), Cell.v (vu64 (0 : Int))] = eC 901 := (eC_small 901 (by omega)).symm
theorem cE_lit902 : [Cell.v (vu64 (902 : Int)), Cell.v (vu64 (0 : Int)), Cell.v (vu64 (0 : Int)), Cell.v (vu64 (0 : Int))] = eC 902 := (eC_small 902 (by omega)).symm
theorem cE_lit903 : [Cell.v (vu64 (903 : Int)), Cell.v (vu64 (0 : Int)), Cell.v (vu64 (0 : Int)), Cell.v (vu64 (0 : Int))] = eC 903 := (eC_small 903 (by omega)).symm
theorem cE_lit904 : [Cell.v (vu64 (904 : Int)), Cell.v (vu64 (0 : Int)), Cell.v (vu64 (0 : Int)), Cell.v (vu64 (0 : Int))] = eC 904 := (eC_small 904 (by omega)).symm
end Go.Pl
namespace Go.Proofs.Ytpghmnpbfaichaa
open Go.Sx Go.Pl
set_option linter.unusedVariables false
set_option maxRecDepth 100000
theorem evS (s : Int) (l : List Nd) (qs : List (Int × Int × Int)) (vs : List Nat) (K : List It → St → Prop) (R : SV → List HO → Prop) : W (xwp Try.prog X K42 [(32, [([0,1,0,1,1],5)])] 60 (fxOf Try.f8 [] []) [] [.at []] ⟨argsS 0 [.v (.int .i64 s), .x 0 [], .x 1 [], .x 2 []], [.ext false (.s false 7 l.length (cN l)), .ext false (.s false 3 qs.length (cQ qs)), .ext false (.s false 4 vs.length (cE vs))]⟩ K R) = W (bif decide ((200 : Int) < (↑(List.length l) : Int)) then R (SV.v (Value.bool true)) [] else bif decide ((200 : Int) < (↑(List.length qs) : Int)) then R (SV.v (Value.bool true)) [] else ∃ (l_1 : List Nd), List.length l = List.length l_1 ∧ IsC (List.length l) 7 (cN l) (cN l_1) ∧ List.length l_1 ≤ 2513169434916 ∧ (∀ (M : Mem), (0 + List.length qs) * 24 ≤ 140737488355328 ∧ 0 + List.length qs ≤ 140737488355328) ∧ lE (List.length vs) (cE vs) fun (l_2 : List Nat) => (∀ (M : Mem), (List.length l_2 + 1) * 32 ≤ 140737488355328 ∧ List.length l_2 + 1 ≤ 140737488355328) ∧ (∀ (M : Mem), (List.length l_2 + 1 + 1) * 32 ≤ 140737488355328 ∧ List.length l_2 + 1 + 1 ≤ 140737488355328) ∧ (∀ (M : Mem), (List.length l_2 + 1 + 1 + 1) * 32 ≤ 140737488355328 ∧ List.length l_2 + 1 + 1 + 1 ≤ 140737488355328) ∧ (∀ (M : Mem), (List.length l_2 + 1 + 1 + 1 + 1) * 32 ≤ 140737488355328 ∧ List.length l_2 + 1 + 1 + 1 + 1 ≤ 140737488355328) ∧ K [It.ops [0, 1, 1, 1, 1, 1, 1] 6, It.at [1, 1, 1, 1, 1, 1, 1]] (St.mk [(39, SV.v (vi64 (↑(List.length vs) : Int))), (38, SV.x 2 []), (37, SV.o (6 + 0)), (36, SV.o 5), (35, SV.o (3 + 0)), (34, SV.v (vi64 s)), (11, SV.o (6 + 0)), (32, SV.o (6 + 0)), (31, SV.x 2 []), (10, SV.o 5), (30, SV.o 5), (29, SV.x 1 []), (28, SV.o 4), (9, SV.o (3 + 0)), (27, SV.o (3 + 0)), (26, SV.x 0 []), (25, SV.bl false), (24, SV.v (Value.bool (decide ((200 : Int) < (↑(List.length qs) : Int))))), (23, SV.v (vi64 (↑(List.length qs) : Int))), (22, SV.x 1 []), (21, SV.bl false), (20, SV.v (Value.bool (decide ((200 : Int) < (↑(List.length l) : Int))))), (19, SV.v (vi64 (↑(List.length l) : Int))), (18, SV.x 0 []), (17, SV.bl false), (16, SV.v (Value.bool true)), (8, SV.v (Value.bool false)), (0, SV.v (vi64 s)), (1, SV.x 0 []), (2, SV.x 1 []), (3, SV.x 2 [])] [HO.ext false (Cell.s false 7 (List.length l) (cN l)), HO.ext false (Cell.s false 3 (List.length qs) (cQ qs)), HO.ext false (Cell.s false 4 (List.length vs) (cE vs)), HO.rowc 43 7 (List.length l_1) (Ct.fn (cN l_1)), HO.gone, HO.rowc 63 3 (0 + List.length qs) (Ct.app 0 (Ct.lit 3 []) (Ct.fn (cQ qs))), HO.rowc 41 4 (List.length l_2 + 1 + 1 + 1 + 1) (Ct.app (List.length l_2 + 1 + 1 + 1) (Ct.app (List.length l_2 + 1 + 1) (Ct.app (List.length l_2 + 1) (Ct.app (List.length l_2) (Ct.fn (cE l_2)) (Ct.lit 4 [Cell.v (vu64 (901 : Int)), Cell.v (vu64 (0 : Int)), Cell.v (vu64 (0 : Int)), Cell.v (vu64 (0 : Int))])) (Ct.lit 4 [Cell.v (vu64 (902 : Int)), Cell.v (vu64 (0 : Int)), Cell.v (vu64 (0 : Int)), Cell.v (vu64 (0 : Int))])) (Ct.lit 4 [Cell.v (vu64 (903 : Int)), Cell.v (vu64 (0 : Int)), Cell.v (vu64 (0 : Int)), Cell.v (vu64 (0 : Int))])) (Ct.lit 4 [Cell.v (vu64 (904 : Int)), Cell.v (vu64 (0 : Int)), Cell.v (vu64 (0 : Int)), Cell.v (vu64 (0 : Int))]))])) := by kernel_rfl
theorem evT (s : Int) (l : List Nd) (qs : List (Int × Int × Int)) (vs sp : List Nat) (K : List It → St → Prop) (R : SV → List HO → Prop) : W (xwp Try.prog X K42 [(32, [([0,1,0,1,1],5)])] 60 (fxOf Try.f8 [] []) [] [.ops [0, 1, 1, 1, 1, 1, 1] 6, .at [1, 1, 1, 1, 1, 1, 1]] ⟨[(0, .v (.int .i64 s)), (1, .x 0 []), (2, .x 1 []), (3, .x 2 []), (8, .v (.bool false)), (9, .o 3), (10, .o 4), (11, .x 5 []), (34, .v (.int .i64 s)), (35, .o 3), (36, .o 4), (37, .x 5 []), (38, .x 2 []), (39, .v (.int .i64 (vs.length : Nat)))], [.ext false (.s false 7 l.length (cN l)), .ext false (.s false 3 qs.length (cQ qs)), .ext false (.s false 4 vs.length (cE vs)), .rowc 43 7 l.length (.fn (cN l)), .rowc 63 3 qs.length (.fn (cQ qs)), .ext false (.s false 4 sp.length (cE sp))]⟩ K R) = W ((∀ (M : Mem), (0 : Int) ≤ (↑(List.length vs) : Int)) ∧ (∀ (M : Mem), 0 ≤ List.length vs ∧ List.length vs ≤ List.length sp) ∧ vlC (List.length l) (List.length qs) (List.length vs - 0) (cN l) (cQ qs) (fun (k j : Nat) => cE sp (k + 0) j) fun (l_1 : List Nd) (qs_1 : List Qy) (vs_1 : List Nat) => vlC (List.length l) (List.length qs) (List.length vs) (cN l) (cQ qs) (cE vs) fun (l_2 : List Nd) (qs_2 : List Qy) (vs_2 : List Nat) => List.length l_2 ≤ 4000000000000 ∧ lE2 (List.length (vlR s qs_1 vs_1 l_1).1) (List.length (vlR s qs_2 vs_2 l_2).1) (cE (vlR s qs_1 vs_1 l_1).1) (cE (vlR s qs_2 vs_2 l_2).1) fun (l_3 l2 : List Nat) => bif decide (l_3 = l2) then bif (vlR s qs_1 vs_1 l_1).2 == (vlR s qs_2 vs_2 l_2).2 then ∃ (l_4 : List Nd), List.length l = List.length l_4 ∧ IsC (List.length l) 7 (cN l) (cN l_4) ∧ List.length l_4 ≤ 4398046511104 ∧ ∃ (l2 : List Nd), List.length l = List.length l2 ∧ IsC (List.length l) 7 (cN l) (cN l2) ∧ (∀ (x : Nd), x ∈ l_4 → x.4 < top) ∧ (∀ (x : Nd), x ∈ l2 → x.4 < top) ∧ bif decide (l_4 = l2) then ∃ (l : List (Int × Int × Int)), List.length qs = List.length l ∧ IsC (List.length qs) 3 (cQ qs) (cQ l) ∧ List.length l ≤ 4398046511104 ∧ ∃ (l2 : List (Int × Int × Int)), List.length qs = List.length l2 ∧ IsC (List.length qs) 3 (cQ qs) (cQ l2) ∧ bif decide (l = l2) then lE (List.length vs) (cE vs) fun (l : List Nat) => (∀ (M : Mem), (List.length l + 1) * 32 ≤ 140737488355328 ∧ List.length l + 1 ≤ 140737488355328) ∧ (∀ (M : Mem), (List.length l + 1 + 1) * 32 ≤ 140737488355328 ∧ List.length l + 1 + 1 ≤ 140737488355328) ∧ (∀ (M : Mem), (List.length l + 1 + 1 + 1) * 32 ≤ 140737488355328 ∧ List.length l + 1 + 1 + 1 ≤ 140737488355328) ∧ (∀ (M : Mem), (List.length l + 1 + 1 + 1 + 1) * 32 ≤ 140737488355328 ∧ List.length l + 1 + 1 + 1 + 1 ≤ 140737488355328) ∧ lE2 (List.length sp) (List.length l + 1 + 1 + 1 + 1) (cE sp) (appC (List.length l + 1 + 1 + 1) (appC (List.length l + 1 + 1) (appC (List.length l + 1) (appC (List.length l) (cE l) (lc 4 [Cell.v (vu64 (901 : Int)), Cell.v (vu64 (0 : Int)), Cell.v (vu64 (0 : Int)), Cell.v (vu64 (0 : Int))])) (lc 4 [Cell.v (vu64 (902 : Int)), Cell.v (vu64 (0 : Int)), Cell.v (vu64 (0 : Int)), Cell.v (vu64 (0 : Int))])) (lc 4 [Cell.v (vu64 (903 : Int)), Cell.v (vu64 (0 : Int)), Cell.v (vu64 (0 : Int)), Cell.v (vu64 (0 : Int))])) (lc 4 [Cell.v (vu64 (904 : Int)), Cell.v (vu64 (0 : Int)), Cell.v (vu64 (0 : Int)), Cell.v (vu64 (0 : Int))])) fun (l l2 : List Nat) => R (SV.v (Value.bool (decide (l = l2)))) [] else R (SV.v (Value.bool false)) [] else R (SV.v (Value.bool false)) [] else R (SV.v (Value.bool false)) [] else R (SV.v (Value.bool false)) []) := by kernel_rfl
theorem ev_2 (s : Int) (l : List Nd) (qs : List (Int × Int × Int)) (vs : List Nat) (hl : l.length ≤ 200) (hlq : qs.length ≤ 200) (hb : vs.length * 32 ≤ 140737488351232) (ht : ∀ x ∈ l, x.v < top) (hv : ∀ v ∈ vs, v < top) (Q : SV → List HO → Prop) (hq : Q (.v (.bool true)) []) (sp : List Nat) (hsp : sp = vs ++ [901, 902, 903, 904]) :
    FOk Try.prog Try.f8 Q [.ops [0, 1, 1, 1, 1, 1, 1] 6, .at [1, 1, 1, 1, 1, 1, 1]] ⟨[(0, .v (.int .i64 s)), (1, .x 0 []), (2, .x 1 []), (3, .x 2 []), (8, .v (.bool false)), (9, .o 3), (10, .o 4), (11, .x 5 []), (34, .v (.int .i64 s)), (35, .o 3), (36, .o 4), (37, .x 5 []), (38, .x 2 []), (39, .v (.int .i64 (vs.length : Nat)))], [.ext false (.s false 7 l.length (cN l)), .ext false (.s false 3 qs.length (cQ qs)), .ext false (.s false 4 vs.length (cE vs)), .rowc 43 7 l.length (.fn (cN l)), .rowc 63 3 qs.length (.fn (cQ qs)), .ext false (.s false 4 sp.length (cE sp))]⟩ := by
  have spl : sp.length = vs.length + 4 := by rw [hsp]; simp
  have spt : ∀ v ∈ sp, v < top := fun v h => by
    rw [hsp] at h
    rcases List.mem_append.1 h with h | h
    · exact hv v h
    · simp only [List.mem_cons, List.not_mem_nil, or_false] at h
      rcases h with rfl | rfl | rfl | rfl <;> exact small_top (by omega)
  have gsp : ∀ k, k < vs.length → gE sp k = gE vs k := fun k hk => by
    rw [hsp]
    simp only [gE, List.getD_eq_getElem?_getD, List.getElem?_append_left hk]
  have lt := vlR_top s qs vs l
  have ll : (vlR s qs vs l).1.length ≤ 200 := by
    unfold vlR
    split
    · simp
    · split
      · simp
      · split
        · simp
        · split
          · simp
          · rename_i out h
            have := (valsN_pre l [] out h).2
            simp only [List.length_nil] at this
            show out.length ≤ 200
            omega
  refine run_sound hm 60 ((evT s l qs vs sp _ _).mpr ⟨?_⟩)
  refine And.intro (fun _ => by omega) (And.intro (fun _ => by omega) (?_))
  refine ⟨⟨l, qs, vs, rfl, IsC.refl _ _ _, rfl, IsC.refl _ _ _, rfl, fun k hk j hj => ?_, by omega, by omega, ht, hv, ?_⟩⟩
  · show cE sp (k + 0) j = cE vs k j
    rw [Nat.add_zero, cE, cE, gsp k hk]
  refine ⟨⟨l, qs, vs, rfl, IsC.refl _ _ _, rfl, IsC.refl _ _ _, rfl, IsC.refl _ _ _, by omega, by omega, ht, hv, by omega, ?_⟩⟩
  refine ⟨⟨(vlR s qs vs l).1, (vlR s qs vs l).1, rfl, IsC.refl _ _ _, rfl, IsC.refl _ _ _, by omega, lt, lt, ?_⟩⟩
  rw [decide_eq_true rfl, beq_self_eq_true]
  refine ⟨l, rfl, IsC.refl _ _ _, by omega, l, rfl, IsC.refl _ _ _, ht, ht, ?_⟩
  rw [decide_eq_true rfl]
  refine ⟨qs, rfl, IsC.refl _ _ _, by omega, qs, rfl, IsC.refl _ _ _, ?_⟩
  rw [decide_eq_true rfl]
  refine ⟨⟨vs, rfl, IsC.refl _ _ _, by omega, hv, ?_⟩⟩
  refine And.intro (fun _ => by omega) (And.intro (fun _ => by omega) (And.intro (fun _ => by omega) (And.intro (fun _ => by omega) (⟨⟨sp, sp, rfl, IsC.refl _ _ _, by omega, ?_, by omega, spt, spt, ?_⟩⟩))))
  · rw [cE_lit901, cE_lit902, cE_lit903, cE_lit904, hsp]
    exact cE_spare vs
  · rw [decide_eq_true rfl]
    exact hq
theorem bEv : Try.f8.body.isSome = true := by kernel_rfl
theorem nEv (s : Int) : Nat.ble [SV.v (.int .i64 s), .x 0 [], .x 1 [], .x 2 []].length Try.f8.ntmps = true := by kernel_rfl
theorem exprValues_ok (s : Int) (l : List Nd) (qs : List (Int × Int × Int)) (vs : List Nat) (hb : vs.length * 32 ≤ 140737488351232) (ht : ∀ x ∈ l, x.v < top) (hv : ∀ v ∈ vs, v < top) (Q : SV → List HO → Prop) (hq : Q (.v (.bool true)) []) : FnOk Try.prog 8 [.v (.int .i64 s), .x 0 [], .x 1 [], .x 2 []] [.ext false (.s false 7 l.length (cN l)), .ext false (.s false 3 qs.length (cQ qs)), .ext false (.s false 4 vs.length (cE vs))] Q := by
  refine fn_of_ok Try.func8 bEv ?_ ?_
  · exact nEv s
  refine run_sound hm 60 ((evS s l qs vs _ _).mpr ⟨?_⟩)
  rw [cond_dec]
  refine ite_intro (fun _ => hq) (fun h1 => ?_)
  rw [cond_dec]
  refine ite_intro (fun _ => hq) (fun h2 => ?_)
  refine ⟨l, rfl, IsC.refl _ _ _, by omega, And.intro (fun _ => by omega) (⟨⟨vs, rfl, IsC.refl _ _ _, by omega, hv, ?_⟩⟩)⟩
  refine And.intro (fun _ => by omega) (And.intro (fun _ => by omega) (And.intro (fun _ => by omega) (And.intro (fun _ => by omega) (?_))))
  rw [cE_lit901, cE_lit902, cE_lit903, cE_lit904]
  refine FOk.frz 6 rfl (FOk.norm (ks := [0,1,2,3,8,9,10,11,34,35,36,37,38,39]) (nl := []) (st' := ⟨[(0, .v (.int .i64 s)), (1, .x 0 []), (2, .x 1 []), (3, .x 2 []), (8, .v (.bool false)), (9, .o 3), (10, .o 4), (11, .x 5 []), (34, .v (.int .i64 s)), (35, .o 3), (36, .o 4), (37, .x 5 []), (38, .x 2 []), (39, .v (.int .i64 (vs.length : Nat)))], [.ext false (.s false 7 l.length (cN l)), .ext false (.s false 3 qs.length (cQ qs)), .ext false (.s false 4 vs.length (cE vs)), .rowc 43 7 l.length (.fn (cN l)), .rowc 63 3 (0 + qs.length) (.app 0 (.lit 3 []) (.fn (cQ qs))), .ext false (.s false 4 (vs.length + 1 + 1 + 1 + 1) (Ct.app (vs.length + 1 + 1 + 1) (.app (vs.length + 1 + 1) (.app (vs.length + 1) (.app vs.length (.fn (cE vs)) (.lit 4 (eC 901))) (.lit 4 (eC 902))) (.lit 4 (eC 903))) (.lit 4 (eC 904))).at)]⟩) ?_ ?_)
  · kernel_rfl
  refine FOk.cv (ev_2 s l qs vs (by omega) (by omega) hb ht hv Q hq _ rfl) ⟨HE.refl _, HE.refl _, HE.refl _, HE.refl _, ⟨rfl, rfl, Nat.zero_add _, fun k hk j hj => appC_ge _ _ _ (Nat.zero_le _)⟩, ⟨rfl, rfl, rfl, by simp, cE_spare vs⟩, trivial⟩
end Go.Proofs.Ytpghmnpbfaichaa
