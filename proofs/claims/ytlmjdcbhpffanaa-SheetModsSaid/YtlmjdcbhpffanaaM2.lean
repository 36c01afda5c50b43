/- The texts Z4 .. Z28 of this proof, one behind the other. -/
import Derived.Test.YtlmjdcbhpffanaaM1
import Derived.Lib.Mul64
/- The check of nodes. -/
namespace Go.Pl
open Go.Sx
theorem badN_iff (f a i : Int) (x : Nd) : badN f a i x = true ↔ (2 ≤ x.op ∧ x.op ≤ 4) ∧ (x.a < 0 ∨ mostN f a i x.op ≤ x.a ∨ x.b < -3 ∨ 3 < x.b) := by
  rw [badN, qryN, Bool.and_eq_true, decide_eq_true_eq, decide_eq_true_eq]
theorem gN_mem {l : List Nd} {k : Nat} (h : k < l.length) : gN l k ∈ l := by
  rw [gN, List.getD_eq_getElem?_getD, List.getElem?_eq_getElem h]; exact List.getElem_mem h
theorem any_gN {l : List Nd} {k : Nat} (p : Nd → Bool) (h : k < l.length) : (l.drop k).any p = (p (gN l k) || (l.drop (k + 1)).any p) := by
  rw [drop_gN h, List.any_cons]
theorem chk_bad {l : List Nd} {f a i : Int} (h : 64 < l.length ∨ ordN 0 l = false ∨ l.any (badN f a i) = true) : chkN l f a i = 110 := by rw [chkN, if_pos h]
theorem chk_ok {l : List Nd} {f a i : Int} (h : ¬ (64 < l.length ∨ ordN 0 l = false ∨ l.any (badN f a i) = true)) : chkN l f a i = 0 := by rw [chkN, if_neg h]
end Go.Pl
namespace Go.Proofs.Ytlmjdcbhpffanaa
open Go.Sx Go.Pl
set_option linter.unusedVariables false
set_option maxRecDepth 100000
theorem chc (l : List Nd) (n k M : Nat) (f a i : Int) (K : List It → St → Prop) (R : SV → List HO → Prop) : W (xwp Try.prog X K3 [] 60 (fxOf Try.f76 [] [⟨[0,1,0,1,1,1,1], [34,33,32,11], []⟩]) [.as 37 (.v (.iface 183 (.agg #[.int .u64 (limb (gN l k).v 0 : Nat), .int .u64 (limb (gN l k).v 1 : Nat), .int .u64 (limb (gN l k).v 2 : Nat), .int .u64 (limb (gN l k).v 3 : Nat)])))] (.at [0,0,1,0,1,1,1,1] :: .rnd [0,0,1,0,1,1,1,1] M :: [.blk 0, .at [1,1,1,1,1]]) ⟨[(34, .v (.int .i64 (k : Int))), (33, .v (.int .i64 (n : Int))), (32, .o 0), (11, .p 1 0)], [.rowc 173 1 n (.fn (cS l)), .cells [.v (.int .i64 0), .v (.int .i64 0), .v (.int .i64 f), .v (.int .i64 a), .v (.int .i64 i)] 194]⟩ K R) = W (bif decide ((↑k : Int) < (↑n : Int)) then (∀ M : Mem, (0 : Int) ≤ (↑k : Int) ∧ (↑k : Int) < (↑n : Int)) ∧ (∀ M : Mem, k < n) ∧ (∀ M : Mem, stV (gN l k) = Value.iface 183 (Value.agg (Array.mk [vu64 (↑(limb (gN l k).4 0) : Int), vu64 (↑(limb (gN l k).4 1) : Int), vu64 (↑(limb (gN l k).4 2) : Int), vu64 (↑(limb (gN l k).4 3) : Int)]))) ∧ (∀ M : Mem, 3 ≤ 3) ∧ K [.rnd [0,0,1,0,1,1,1,1] M, .blk 0, .at [1,1,1,1,1]] (St.mk [(34, .v (vi64 (IntKind.wrap .i64 ((↑k : Int) + (1 : Int))))), (33, .v (vi64 (↑n : Int))), (32, .o 0), (11, .p 1 0)] [.rowc 173 1 n (.fn (cS l)), .cells [.v (vi64 0), .v (vi64 0), .v (vi64 f), .v (vi64 a), .v (vi64 i)] 194]) else R (.v (vi64 0)) []) := by kernel_rfl
theorem chn (l : List Nd) (n k M : Nat) (f a i : Int) (K : List It → St → Prop) (R : SV → List HO → Prop) : W (xwp Try.prog X K3 [] 60 (fxOf Try.f76 [] [⟨[0,1,0,1,1,1,1], [34,33,32,11], []⟩]) [.as 37 (.v (.iface 204 (.agg #[.int .i64 (gN l k).a])))] (.at [0,0,1,0,1,1,1,1] :: .rnd [0,0,1,0,1,1,1,1] M :: [.blk 0, .at [1,1,1,1,1]]) ⟨[(34, .v (.int .i64 (k : Int))), (33, .v (.int .i64 (n : Int))), (32, .o 0), (11, .p 1 0)], [.rowc 173 1 n (.fn (cS l)), .cells [.v (.int .i64 0), .v (.int .i64 0), .v (.int .i64 f), .v (.int .i64 a), .v (.int .i64 i)] 194]⟩ K R) = W (bif decide ((↑k : Int) < (↑n : Int)) then (∀ M : Mem, (0 : Int) ≤ (↑k : Int) ∧ (↑k : Int) < (↑n : Int)) ∧ (∀ M : Mem, k < n) ∧ (∀ M : Mem, stV (gN l k) = Value.iface 204 (Value.agg (Array.mk [vi64 (gN l k).2]))) ∧ (∀ M : Mem, 3 ≤ 3) ∧ K [.rnd [0,0,1,0,1,1,1,1] M, .blk 0, .at [1,1,1,1,1]] (St.mk [(34, .v (vi64 (IntKind.wrap .i64 ((↑k : Int) + (1 : Int))))), (33, .v (vi64 (↑n : Int))), (32, .o 0), (11, .p 1 0)] [.rowc 173 1 n (.fn (cS l)), .cells [.v (vi64 0), .v (vi64 0), .v (vi64 f), .v (vi64 a), .v (vi64 i)] 194]) else R (.v (vi64 0)) []) := by kernel_rfl
theorem cha (l : List Nd) (n k M : Nat) (f a i : Int) (K : List It → St → Prop) (R : SV → List HO → Prop) : W (xwp Try.prog X K3 [] 60 (fxOf Try.f76 [] [⟨[0,1,0,1,1,1,1], [34,33,32,11], []⟩]) [.as 37 (.v (.iface 206 (.agg #[.int .i64 (gN l k).a, .int .i64 (gN l k).b])))] (.at [0,0,1,0,1,1,1,1] :: .rnd [0,0,1,0,1,1,1,1] M :: [.blk 0, .at [1,1,1,1,1]]) ⟨[(34, .v (.int .i64 (k : Int))), (33, .v (.int .i64 (n : Int))), (32, .o 0), (11, .p 1 0)], [.rowc 173 1 n (.fn (cS l)), .cells [.v (.int .i64 0), .v (.int .i64 0), .v (.int .i64 f), .v (.int .i64 a), .v (.int .i64 i)] 194]⟩ K R) = W (bif decide ((↑k : Int) < (↑n : Int)) then (∀ M : Mem, (0 : Int) ≤ (↑k : Int) ∧ (↑k : Int) < (↑n : Int)) ∧ (∀ M : Mem, k < n) ∧ (∀ M : Mem, stV (gN l k) = Value.iface 206 (Value.agg (Array.mk [vi64 (gN l k).2, vi64 (gN l k).3]))) ∧ (∀ M : Mem, 3 ≤ 3) ∧ K [.rnd [0,0,1,0,1,1,1,1] M, .blk 0, .at [1,1,1,1,1]] (St.mk [(34, .v (vi64 (IntKind.wrap .i64 ((↑k : Int) + (1 : Int))))), (33, .v (vi64 (↑n : Int))), (32, .o 0), (11, .p 1 0)] [.rowc 173 1 n (.fn (cS l)), .cells [.v (vi64 0), .v (vi64 0), .v (vi64 f), .v (vi64 a), .v (vi64 i)] 194]) else R (.v (vi64 0)) []) := by kernel_rfl
theorem chm (l : List Nd) (n k M : Nat) (f a i : Int) (K : List It → St → Prop) (R : SV → List HO → Prop) : W (xwp Try.prog X K3 [] 60 (fxOf Try.f76 [] [⟨[0,1,0,1,1,1,1], [34,33,32,11], []⟩]) [.as 37 (.v (.iface 207 (.agg #[.int .i64 (gN l k).a, .int .i64 (gN l k).b])))] (.at [0,0,1,0,1,1,1,1] :: .rnd [0,0,1,0,1,1,1,1] M :: [.blk 0, .at [1,1,1,1,1]]) ⟨[(34, .v (.int .i64 (k : Int))), (33, .v (.int .i64 (n : Int))), (32, .o 0), (11, .p 1 0)], [.rowc 173 1 n (.fn (cS l)), .cells [.v (.int .i64 0), .v (.int .i64 0), .v (.int .i64 f), .v (.int .i64 a), .v (.int .i64 i)] 194]⟩ K R) = W (bif decide ((↑k : Int) < (↑n : Int)) then (∀ M : Mem, (0 : Int) ≤ (↑k : Int) ∧ (↑k : Int) < (↑n : Int)) ∧ (∀ M : Mem, k < n) ∧ (∀ M : Mem, stV (gN l k) = Value.iface 207 (Value.agg (Array.mk [vi64 (gN l k).2, vi64 (gN l k).3]))) ∧ (∀ M : Mem, 3 ≤ 3) ∧ K [.rnd [0,0,1,0,1,1,1,1] M, .blk 0, .at [1,1,1,1,1]] (St.mk [(34, .v (vi64 (IntKind.wrap .i64 ((↑k : Int) + (1 : Int))))), (33, .v (vi64 (↑n : Int))), (32, .o 0), (11, .p 1 0)] [.rowc 173 1 n (.fn (cS l)), .cells [.v (vi64 0), .v (vi64 0), .v (vi64 f), .v (vi64 a), .v (vi64 i)] 194]) else R (.v (vi64 0)) []) := by kernel_rfl
theorem chs (l : List Nd) (n k M : Nat) (f a i : Int) (K : List It → St → Prop) (R : SV → List HO → Prop) : W (xwp Try.prog X K3 [] 60 (fxOf Try.f76 [] [⟨[0,1,0,1,1,1,1], [34,33,32,11], []⟩]) [.as 37 (.v (.iface 209 (.agg #[.int .i64 (gN l k).a, .int .u64 (limb (gN l k).v 0 : Nat), .int .u64 (limb (gN l k).v 1 : Nat), .int .u64 (limb (gN l k).v 2 : Nat), .int .u64 (limb (gN l k).v 3 : Nat)])))] (.at [0,0,1,0,1,1,1,1] :: .rnd [0,0,1,0,1,1,1,1] M :: [.blk 0, .at [1,1,1,1,1]]) ⟨[(34, .v (.int .i64 (k : Int))), (33, .v (.int .i64 (n : Int))), (32, .o 0), (11, .p 1 0)], [.rowc 173 1 n (.fn (cS l)), .cells [.v (.int .i64 0), .v (.int .i64 0), .v (.int .i64 f), .v (.int .i64 a), .v (.int .i64 i)] 194]⟩ K R) = W (bif decide ((↑k : Int) < (↑n : Int)) then (∀ M : Mem, (0 : Int) ≤ (↑k : Int) ∧ (↑k : Int) < (↑n : Int)) ∧ (∀ M : Mem, k < n) ∧ (∀ M : Mem, stV (gN l k) = Value.iface 209 (Value.agg (Array.mk [vi64 (gN l k).2, vu64 (↑(limb (gN l k).4 0) : Int), vu64 (↑(limb (gN l k).4 1) : Int), vu64 (↑(limb (gN l k).4 2) : Int), vu64 (↑(limb (gN l k).4 3) : Int)]))) ∧ (∀ M : Mem, 3 ≤ 3) ∧ K [.rnd [0,0,1,0,1,1,1,1] M, .blk 0, .at [1,1,1,1,1]] (St.mk [(34, .v (vi64 (IntKind.wrap .i64 ((↑k : Int) + (1 : Int))))), (33, .v (vi64 (↑n : Int))), (32, .o 0), (11, .p 1 0)] [.rowc 173 1 n (.fn (cS l)), .cells [.v (vi64 0), .v (vi64 0), .v (vi64 f), .v (vi64 a), .v (vi64 i)] 194]) else R (.v (vi64 0)) []) := by kernel_rfl
theorem chq2 (l : List Nd) (n k M : Nat) (f a i : Int) (K : List It → St → Prop) (R : SV → List HO → Prop) : W (xwp Try.prog X K3 [] 60 (fxOf Try.f76 [] [⟨[0,1,0,1,1,1,1], [34,33,32,11], []⟩]) [.as 37 (.v (.iface 176 (.agg #[.int .i64 2, .int .i64 (gN l k).a, .int .i64 (gN l k).b])))] (.at [0,0,1,0,1,1,1,1] :: .rnd [0,0,1,0,1,1,1,1] M :: [.blk 0, .at [1,1,1,1,1]]) ⟨[(34, .v (.int .i64 (k : Int))), (33, .v (.int .i64 (n : Int))), (32, .o 0), (11, .p 1 0)], [.rowc 173 1 n (.fn (cS l)), .cells [.v (.int .i64 0), .v (.int .i64 0), .v (.int .i64 f), .v (.int .i64 a), .v (.int .i64 i)] 194]⟩ K R) = W (bif decide ((↑k : Int) < (↑n : Int)) then (∀ M : Mem, (0 : Int) ≤ (↑k : Int) ∧ (↑k : Int) < (↑n : Int)) ∧ (∀ M : Mem, k < n) ∧ (∀ M : Mem, stV (gN l k) = Value.iface 176 (Value.agg (Array.mk [vi64 2, vi64 (gN l k).2, vi64 (gN l k).3]))) ∧ (∀ M : Mem, 0 + 3 ≤ 3) ∧ bif decide ((gN l k).2 < (0 : Int)) then R (.v (vi64 110)) [] else (∀ M : Mem, (0 : Int) ≤ (2 : Int) ∧ (2 : Int) < (5 : Int)) ∧ bif decide (f ≤ (gN l k).2) then R (.v (vi64 110)) [] else bif decide ((gN l k).3 < (-3 : Int)) then R (.v (vi64 110)) [] else bif decide ((3 : Int) < (gN l k).3) then R (.v (vi64 110)) [] else K [.rnd [0,0,1,0,1,1,1,1] M, .blk 0, .at [1,1,1,1,1]] (St.mk [(34, .v (vi64 (IntKind.wrap .i64 ((↑k : Int) + (1 : Int))))), (33, .v (vi64 (↑n : Int))), (32, .o 0), (11, .p 1 0)] [.rowc 173 1 n (.fn (cS l)), .cells [.v (vi64 0), .v (vi64 0), .v (vi64 f), .v (vi64 a), .v (vi64 i)] 194]) else R (.v (vi64 0)) []) := by kernel_rfl
theorem chq3 (l : List Nd) (n k M : Nat) (f a i : Int) (K : List It → St → Prop) (R : SV → List HO → Prop) : W (xwp Try.prog X K3 [] 60 (fxOf Try.f76 [] [⟨[0,1,0,1,1,1,1], [34,33,32,11], []⟩]) [.as 37 (.v (.iface 176 (.agg #[.int .i64 3, .int .i64 (gN l k).a, .int .i64 (gN l k).b])))] (.at [0,0,1,0,1,1,1,1] :: .rnd [0,0,1,0,1,1,1,1] M :: [.blk 0, .at [1,1,1,1,1]]) ⟨[(34, .v (.int .i64 (k : Int))), (33, .v (.int .i64 (n : Int))), (32, .o 0), (11, .p 1 0)], [.rowc 173 1 n (.fn (cS l)), .cells [.v (.int .i64 0), .v (.int .i64 0), .v (.int .i64 f), .v (.int .i64 a), .v (.int .i64 i)] 194]⟩ K R) = W (bif decide ((↑k : Int) < (↑n : Int)) then (∀ M : Mem, (0 : Int) ≤ (↑k : Int) ∧ (↑k : Int) < (↑n : Int)) ∧ (∀ M : Mem, k < n) ∧ (∀ M : Mem, stV (gN l k) = Value.iface 176 (Value.agg (Array.mk [vi64 3, vi64 (gN l k).2, vi64 (gN l k).3]))) ∧ (∀ M : Mem, 0 + 3 ≤ 3) ∧ bif decide ((gN l k).2 < (0 : Int)) then R (.v (vi64 110)) [] else (∀ M : Mem, (0 : Int) ≤ (3 : Int) ∧ (3 : Int) < (5 : Int)) ∧ bif decide (a ≤ (gN l k).2) then R (.v (vi64 110)) [] else bif decide ((gN l k).3 < (-3 : Int)) then R (.v (vi64 110)) [] else bif decide ((3 : Int) < (gN l k).3) then R (.v (vi64 110)) [] else K [.rnd [0,0,1,0,1,1,1,1] M, .blk 0, .at [1,1,1,1,1]] (St.mk [(34, .v (vi64 (IntKind.wrap .i64 ((↑k : Int) + (1 : Int))))), (33, .v (vi64 (↑n : Int))), (32, .o 0), (11, .p 1 0)] [.rowc 173 1 n (.fn (cS l)), .cells [.v (vi64 0), .v (vi64 0), .v (vi64 f), .v (vi64 a), .v (vi64 i)] 194]) else R (.v (vi64 0)) []) := by kernel_rfl
theorem chq4 (l : List Nd) (n k M : Nat) (f a i : Int) (K : List It → St → Prop) (R : SV → List HO → Prop) : W (xwp Try.prog X K3 [] 60 (fxOf Try.f76 [] [⟨[0,1,0,1,1,1,1], [34,33,32,11], []⟩]) [.as 37 (.v (.iface 176 (.agg #[.int .i64 4, .int .i64 (gN l k).a, .int .i64 (gN l k).b])))] (.at [0,0,1,0,1,1,1,1] :: .rnd [0,0,1,0,1,1,1,1] M :: [.blk 0, .at [1,1,1,1,1]]) ⟨[(34, .v (.int .i64 (k : Int))), (33, .v (.int .i64 (n : Int))), (32, .o 0), (11, .p 1 0)], [.rowc 173 1 n (.fn (cS l)), .cells [.v (.int .i64 0), .v (.int .i64 0), .v (.int .i64 f), .v (.int .i64 a), .v (.int .i64 i)] 194]⟩ K R) = W (bif decide ((↑k : Int) < (↑n : Int)) then (∀ M : Mem, (0 : Int) ≤ (↑k : Int) ∧ (↑k : Int) < (↑n : Int)) ∧ (∀ M : Mem, k < n) ∧ (∀ M : Mem, stV (gN l k) = Value.iface 176 (Value.agg (Array.mk [vi64 4, vi64 (gN l k).2, vi64 (gN l k).3]))) ∧ (∀ M : Mem, 0 + 3 ≤ 3) ∧ bif decide ((gN l k).2 < (0 : Int)) then R (.v (vi64 110)) [] else (∀ M : Mem, (0 : Int) ≤ (4 : Int) ∧ (4 : Int) < (5 : Int)) ∧ bif decide (i ≤ (gN l k).2) then R (.v (vi64 110)) [] else bif decide ((gN l k).3 < (-3 : Int)) then R (.v (vi64 110)) [] else bif decide ((3 : Int) < (gN l k).3) then R (.v (vi64 110)) [] else K [.rnd [0,0,1,0,1,1,1,1] M, .blk 0, .at [1,1,1,1,1]] (St.mk [(34, .v (vi64 (IntKind.wrap .i64 ((↑k : Int) + (1 : Int))))), (33, .v (vi64 (↑n : Int))), (32, .o 0), (11, .p 1 0)] [.rowc 173 1 n (.fn (cS l)), .cells [.v (vi64 0), .v (vi64 0), .v (vi64 f), .v (vi64 a), .v (vi64 i)] 194]) else R (.v (vi64 0)) []) := by kernel_rfl
theorem chS (b : Bool) (l : List Nd) (f a i : Int) (K : List It → St → Prop) (R : SV → List HO → Prop) : W (xwp Try.prog X K3 [] 60 (fxOf Try.f76 [] [⟨[0,1,0,1,1,1,1], [34,33,32,11], []⟩]) [] [.at []] ⟨argsS 0 [.x 0 [], .v (.int .i64 f), .v (.int .i64 a), .v (.int .i64 i)], [.ext b (.s false 7 l.length (cN l))]⟩ K R) = W (∃ (l_1 : List Nd), List.length l = List.length l_1 ∧ IsC (List.length l) 7 (cN l) (cN l_1) ∧ List.length l_1 ≤ 4398046511104 ∧ bif ordN 0 l_1 then bif decide ((64 : Int) < (↑(List.length l) : Int)) then R (.v (vi64 110)) [] else (∀ M : Mem, 0 + 5 ≤ 5) ∧ K [.at [0,1,0,1,1,1,1], .blk 0, .at [1,1,1,1,1]] (St.mk [(34, .v (vi64 0)), (33, .v (vi64 (↑(List.length l) : Int))), (32, .o 0), (11, .p 1 0)] [.rowc 173 1 (List.length l) (.fn (cS l_1)), .cells [.v (vi64 0), .v (vi64 0), .v (vi64 f), .v (vi64 a), .v (vi64 i)] 194]) else R (.v (vi64 110)) []) := by kernel_rfl
theorem ch_loop (all : List Nd) (f a i : Int) (ho : ordN 0 all = true) (hb : all.length ≤ 4398046511104) (Q : SV → List HO → Prop) (hq1 : all.any (badN f a i) = true → Q (.v (.int .i64 110)) []) (hq0 : all.any (badN f a i) = false → Q (.v (.int .i64 0)) []) :
    ∀ (d k : Nat), k + d = all.length → all.any (badN f a i) = (all.drop k).any (badN f a i) →
    FOk Try.prog Try.f76 Q (.rnd [0,0,1,0,1,1,1,1] (d + 1) :: [.blk 0, .at [1, 1, 1, 1, 1]]) ⟨[(34, .v (.int .i64 (k : Int))), (33, .v (.int .i64 (all.length : Int))), (32, .o 0), (11, .p 1 0)], [.rowc 173 1 all.length (.fn (cS all)), .cells [.v (.int .i64 0), .v (.int .i64 0), .v (.int .i64 f), .v (.int .i64 a), .v (.int .i64 i)] 194]⟩
  | 0, k, hd, he => by
    refine FOk.rnd (run_sound hm 60 ((chc all all.length k 0 f a i _ _).mpr ⟨?_⟩))
    simp only [cond_dec]
    rw [if_neg (by omega)]
    rw [show k = all.length by omega, List.drop_length] at he
    exact hq0 he
  | d + 1, k, hd, he => by
    have hk : k < all.length := by omega
    rw [any_gN _ hk] at he
    have hop := ordN_op all 0 ho _ (gN_mem hk)
    have no : badN f a i (gN all k) = true → Q (.v (.int .i64 110)) [] := fun h => hq1 (by rw [he, h]; rfl)
    have yes : badN f a i (gN all k) = false → FOk Try.prog Try.f76 Q (.rnd [0,0,1,0,1,1,1,1] (d + 1) :: [.blk 0, .at [1, 1, 1, 1, 1]]) ⟨[(34, .v (.int .i64 (IntKind.wrap .i64 ((k : Int) + 1)))), (33, .v (.int .i64 (all.length : Int))), (32, .o 0), (11, .p 1 0)], [.rowc 173 1 all.length (.fn (cS all)), .cells [.v (.int .i64 0), .v (.int .i64 0), .v (.int .i64 f), .v (.int .i64 a), .v (.int .i64 i)] 194]⟩ := fun h => by
      rw [wrap_inc _ (by omega)]
      exact ch_loop all f a i ho hb Q hq1 hq0 d (k + 1) (by omega) (by rw [he, h]; rfl)
    by_cases h : (gN all k).op = 1
    · refine FOk.rnd (run_sound hm 60 ((chc all all.length k (d + 1) f a i _ _).mpr ⟨?_⟩))
      simp only [cond_dec, forall_const]
      repeat' (first | refine And.intro ?_ ?_ | refine ite_intro (fun _ => ?_) (fun _ => ?_))
      all_goals first
        | omega
        | exact (stV_c h)
        | exact no (by rw [badN_iff]; omega)
        | exact yes (by rw [Bool.eq_false_iff, ne_eq, badN_iff]; omega)
    by_cases h : (gN all k).op = 5
    · refine FOk.rnd (run_sound hm 60 ((chn all all.length k (d + 1) f a i _ _).mpr ⟨?_⟩))
      simp only [cond_dec, forall_const]
      repeat' (first | refine And.intro ?_ ?_ | refine ite_intro (fun _ => ?_) (fun _ => ?_))
      all_goals first
        | omega
        | exact (stV_n h)
        | exact no (by rw [badN_iff]; omega)
        | exact yes (by rw [Bool.eq_false_iff, ne_eq, badN_iff]; omega)
    by_cases h : (gN all k).op = 6
    · refine FOk.rnd (run_sound hm 60 ((cha all all.length k (d + 1) f a i _ _).mpr ⟨?_⟩))
      simp only [cond_dec, forall_const]
      repeat' (first | refine And.intro ?_ ?_ | refine ite_intro (fun _ => ?_) (fun _ => ?_))
      all_goals first
        | omega
        | exact (stV_a h)
        | exact no (by rw [badN_iff]; omega)
        | exact yes (by rw [Bool.eq_false_iff, ne_eq, badN_iff]; omega)
    by_cases h : (gN all k).op = 7
    · refine FOk.rnd (run_sound hm 60 ((chm all all.length k (d + 1) f a i _ _).mpr ⟨?_⟩))
      simp only [cond_dec, forall_const]
      repeat' (first | refine And.intro ?_ ?_ | refine ite_intro (fun _ => ?_) (fun _ => ?_))
      all_goals first
        | omega
        | exact (stV_m h)
        | exact no (by rw [badN_iff]; omega)
        | exact yes (by rw [Bool.eq_false_iff, ne_eq, badN_iff]; omega)
    by_cases h : (gN all k).op = 8
    · refine FOk.rnd (run_sound hm 60 ((chs all all.length k (d + 1) f a i _ _).mpr ⟨?_⟩))
      simp only [cond_dec, forall_const]
      repeat' (first | refine And.intro ?_ ?_ | refine ite_intro (fun _ => ?_) (fun _ => ?_))
      all_goals first
        | omega
        | exact (stV_s h)
        | exact no (by rw [badN_iff]; omega)
        | exact yes (by rw [Bool.eq_false_iff, ne_eq, badN_iff]; omega)
    by_cases h : (gN all k).op = 2
    · refine FOk.rnd (run_sound hm 60 ((chq2 all all.length k (d + 1) f a i _ _).mpr ⟨?_⟩))
      have hmo : mostN f a i (gN all k).op = f := by rw [h]; rfl
      simp only [cond_dec, forall_const]
      repeat' (first | refine And.intro ?_ ?_ | refine ite_intro (fun _ => ?_) (fun _ => ?_))
      all_goals first
        | omega
        | exact (by rw [stV_q (by omega), h])
        | exact no (by rw [badN_iff, hmo]; omega)
        | exact yes (by rw [Bool.eq_false_iff, ne_eq, badN_iff, hmo]; omega)
    by_cases h : (gN all k).op = 3
    · refine FOk.rnd (run_sound hm 60 ((chq3 all all.length k (d + 1) f a i _ _).mpr ⟨?_⟩))
      have hmo : mostN f a i (gN all k).op = a := by rw [h]; rfl
      simp only [cond_dec, forall_const]
      repeat' (first | refine And.intro ?_ ?_ | refine ite_intro (fun _ => ?_) (fun _ => ?_))
      all_goals first
        | omega
        | exact (by rw [stV_q (by omega), h])
        | exact no (by rw [badN_iff, hmo]; omega)
        | exact yes (by rw [Bool.eq_false_iff, ne_eq, badN_iff, hmo]; omega)
    by_cases h : (gN all k).op = 4
    · refine FOk.rnd (run_sound hm 60 ((chq4 all all.length k (d + 1) f a i _ _).mpr ⟨?_⟩))
      have hmo : mostN f a i (gN all k).op = i := by rw [h]; rfl
      simp only [cond_dec, forall_const]
      repeat' (first | refine And.intro ?_ ?_ | refine ite_intro (fun _ => ?_) (fun _ => ?_))
      all_goals first
        | omega
        | exact (by rw [stV_q (by omega), h])
        | exact no (by rw [badN_iff, hmo]; omega)
        | exact yes (by rw [Bool.eq_false_iff, ne_eq, badN_iff, hmo]; omega)
    omega
theorem bChk : Try.f76.body.isSome = true := by kernel_rfl
theorem nChk (f a i : Int) : Nat.ble [SV.x 0 [], .v (.int .i64 f), .v (.int .i64 a), .v (.int .i64 i)].length Try.f76.ntmps = true := by kernel_rfl
theorem check_ok (b : Bool) (all : List Nd) (f a i : Int) (hb : all.length ≤ 4398046511104) (Q : SV → List HO → Prop) (hq : Q (.v (.int .i64 (chkN all f a i))) []) : FnOk Try.prog 76 [.x 0 [], .v (.int .i64 f), .v (.int .i64 a), .v (.int .i64 i)] [.ext b (.s false 7 all.length (cN all))] Q := by
  refine fn_of_ok Try.func76 bChk ?_ ?_
  · exact nChk f a i
  refine run_sound hm 60 ((chS b all f a i _ _).mpr ⟨?_⟩)
  simp only [cond_dec, forall_const]
  refine ⟨all, rfl, IsC.refl _ _ _, hb, cond_intro (fun ho => ?_) (fun ho => ?_)⟩
  · refine ite_intro (fun h => ?_) (fun h => ⟨by omega, ?_⟩)
    · rw [chk_bad (.inl (by omega))] at hq; exact hq
    · refine FOk.loop (all.length + 1) (by kernel_rfl) (ch_loop all f a i ho hb Q (fun hh => ?_) (fun hh => ?_) all.length 0 (by omega) rfl)
      · rw [chk_bad (.inr (.inr hh))] at hq; exact hq
      · rw [chk_ok (by rw [ho, hh]; simp; omega)] at hq; exact hq
  · rw [chk_bad (.inr (.inl ho))] at hq; exact hq
noncomputable def gChk : List SV → List HO → Option ((SV → List HO → Prop) → Prop)
  | [.x 0 [], .v (.int .i64 f), .v (.int .i64 a), .v (.int .i64 i)], [.ext _ (.s false 7 n c)] => some fun Q => ∃ l : List Nd, n = l.length ∧ IsC n 7 c (cN l) ∧ l.length ≤ 4398046511104 ∧ Q (.v (.int .i64 (chkN l f a i))) []
  | _, _ => none
theorem gChk_ok (args : List SV) (h : List HO) (tr : (SV → List HO → Prop) → Prop) (Q : SV → List HO → Prop) (hc : gChk args h = some tr) (ht : tr Q) : FnOk Try.prog 76 args h Q := by
  unfold gChk at hc
  split at hc
  · rename_i f a i b n c
    simp only [Option.some.injEq] at hc
    subst hc
    obtain ⟨l, rfl, he, hb, hq⟩ := ht
    exact FnOk.ac (check_ok b l f a i hb Q hq) ⟨⟨rfl, rfl, rfl, rfl, he⟩, trivial⟩
  · cases hc
end Go.Proofs.Ytlmjdcbhpffanaa
/- The degrees of nodes. -/
namespace Go.Proofs.Ytlmjdcbhpffanaa
open Go.Sx Go.Pl
set_option linter.unusedVariables false
set_option maxRecDepth 100000
theorem dgc (l : List Nd) (out : List Int) (n k M : Nat) (K : List It → St → Prop) (R : SV → List HO → Prop) : W (xwp Try.prog X K3 [(133, []), (132, []), (134, []), (138, []), (141, []), (149, [])] 60 (fxOf Try.f77 [] [⟨[0,1,0,1,1,1], [15,14,13,5], [(13, 173, 1), (5, 3, 1)]⟩]) [.as 18 (.v (.iface 183 (.agg #[.int .u64 (limb (gN l k).v 0 : Nat), .int .u64 (limb (gN l k).v 1 : Nat), .int .u64 (limb (gN l k).v 2 : Nat), .int .u64 (limb (gN l k).v 3 : Nat)])))] (.at [0,0,1,0,1,1,1] :: .rnd [0,0,1,0,1,1,1] M :: [.blk 0, .at [1,1,1,1]]) ⟨[(15, .v (.int .i64 (k : Int))), (14, .v (.int .i64 (n : Int))), (13, .o 0), (5, .o 1)], [.rowc 173 1 n (.fn (cS l)), .rowc 3 1 k (.fn (cI out))]⟩ K R) = W (bif decide ((↑k : Int) < (↑n : Int)) then (∀ M : Mem, (0 : Int) ≤ (↑k : Int) ∧ (↑k : Int) < (↑n : Int)) ∧ (∀ M : Mem, k < n) ∧ (∀ M : Mem, stV (gN l k) = Value.iface 183 (Value.agg (Array.mk [vu64 (↑(limb (gN l k).4 0) : Int), vu64 (↑(limb (gN l k).4 1) : Int), vu64 (↑(limb (gN l k).4 2) : Int), vu64 (↑(limb (gN l k).4 3) : Int)]))) ∧ (∀ M : Mem, (k + 1) * 8 ≤ 140737488355328 ∧ k + 1 ≤ 140737488355328) ∧ K [.rnd [0,0,1,0,1,1,1] M, .blk 0, .at [1,1,1,1]] (St.mk [(15, .v (vi64 (IntKind.wrap .i64 ((↑k : Int) + (1 : Int))))), (14, .v (vi64 (↑n : Int))), (13, .o 0), (5, .o 1)] [.rowc 173 1 n (.fn (cS l)), .rowc 3 1 (k + 1) (.app k (.fn (cI out)) (.lit 1 [.v (vi64 0)]))]) else R (.o 0) [.rowc 3 1 k (.fn (cI out))]) := by kernel_rfl
theorem dgn (l : List Nd) (out : List Int) (n k M : Nat) (K : List It → St → Prop) (R : SV → List HO → Prop) : W (xwp Try.prog X K3 [(133, []), (132, []), (134, []), (138, []), (141, []), (149, [])] 60 (fxOf Try.f77 [] [⟨[0,1,0,1,1,1], [15,14,13,5], [(13, 173, 1), (5, 3, 1)]⟩]) [.as 18 (.v (.iface 204 (.agg #[.int .i64 (gN l k).a])))] (.at [0,0,1,0,1,1,1] :: .rnd [0,0,1,0,1,1,1] M :: [.blk 0, .at [1,1,1,1]]) ⟨[(15, .v (.int .i64 (k : Int))), (14, .v (.int .i64 (n : Int))), (13, .o 0), (5, .o 1)], [.rowc 173 1 n (.fn (cS l)), .rowc 3 1 k (.fn (cI out))]⟩ K R) = W (bif decide ((↑k : Int) < (↑n : Int)) then (∀ M : Mem, (0 : Int) ≤ (↑k : Int) ∧ (↑k : Int) < (↑n : Int)) ∧ (∀ M : Mem, k < n) ∧ (∀ M : Mem, stV (gN l k) = Value.iface 204 (Value.agg (Array.mk [vi64 (gN l k).2]))) ∧ (∀ M : Mem, (0 : Int) ≤ (gN l k).2 ∧ (gN l k).2 < (↑k : Int)) ∧ (∀ M : Mem, Int.toNat (gN l k).2 < k) ∧ (∀ M : Mem, (k + 1) * 8 ≤ 140737488355328 ∧ k + 1 ≤ 140737488355328) ∧ K [.rnd [0,0,1,0,1,1,1] M, .blk 0, .at [1,1,1,1]] (St.mk [(15, .v (vi64 (IntKind.wrap .i64 ((↑k : Int) + (1 : Int))))), (14, .v (vi64 (↑n : Int))), (13, .o 0), (5, .o 1)] [.rowc 173 1 n (.fn (cS l)), .rowc 3 1 (k + 1) (.app k (.fn (cI out)) (.lit 1 [.v (vi64 (if (1000 : Int) < gI out (Int.toNat (gN l k).2) then (1000 : Int) else gI out (Int.toNat (gN l k).2)))]))]) else R (.o 0) [.rowc 3 1 k (.fn (cI out))]) := by kernel_rfl
theorem dga (l : List Nd) (out : List Int) (n k M : Nat) (K : List It → St → Prop) (R : SV → List HO → Prop) : W (xwp Try.prog X K3 [(133, []), (132, []), (134, []), (138, []), (141, []), (149, [])] 60 (fxOf Try.f77 [] [⟨[0,1,0,1,1,1], [15,14,13,5], [(13, 173, 1), (5, 3, 1)]⟩]) [.as 18 (.v (.iface 206 (.agg #[.int .i64 (gN l k).a, .int .i64 (gN l k).b])))] (.at [0,0,1,0,1,1,1] :: .rnd [0,0,1,0,1,1,1] M :: [.blk 0, .at [1,1,1,1]]) ⟨[(15, .v (.int .i64 (k : Int))), (14, .v (.int .i64 (n : Int))), (13, .o 0), (5, .o 1)], [.rowc 173 1 n (.fn (cS l)), .rowc 3 1 k (.fn (cI out))]⟩ K R) = W (bif decide ((↑k : Int) < (↑n : Int)) then (∀ M : Mem, (0 : Int) ≤ (↑k : Int) ∧ (↑k : Int) < (↑n : Int)) ∧ (∀ M : Mem, k < n) ∧ (∀ M : Mem, stV (gN l k) = Value.iface 206 (Value.agg (Array.mk [vi64 (gN l k).2, vi64 (gN l k).3]))) ∧ (∀ M : Mem, (0 : Int) ≤ (gN l k).2 ∧ (gN l k).2 < (↑k : Int)) ∧ (∀ M : Mem, Int.toNat (gN l k).2 < k) ∧ (∀ M : Mem, (0 : Int) ≤ (gN l k).3 ∧ (gN l k).3 < (↑k : Int)) ∧ (∀ M : Mem, Int.toNat (gN l k).3 < k) ∧ (∀ M : Mem, (k + 1) * 8 ≤ 140737488355328 ∧ k + 1 ≤ 140737488355328) ∧ K [.rnd [0,0,1,0,1,1,1] M, .blk 0, .at [1,1,1,1]] (St.mk [(15, .v (vi64 (IntKind.wrap .i64 ((↑k : Int) + (1 : Int))))), (14, .v (vi64 (↑n : Int))), (13, .o 0), (5, .o 1)] [.rowc 173 1 n (.fn (cS l)), .rowc 3 1 (k + 1) (.app k (.fn (cI out)) (.lit 1 [.v (vi64 (if (1000 : Int) < if gI out (Int.toNat (gN l k).2) < gI out (Int.toNat (gN l k).3) then gI out (Int.toNat (gN l k).3) else gI out (Int.toNat (gN l k).2) then (1000 : Int) else if gI out (Int.toNat (gN l k).2) < gI out (Int.toNat (gN l k).3) then gI out (Int.toNat (gN l k).3) else gI out (Int.toNat (gN l k).2)))]))]) else R (.o 0) [.rowc 3 1 k (.fn (cI out))]) := by kernel_rfl
theorem dgm (l : List Nd) (out : List Int) (n k M : Nat) (K : List It → St → Prop) (R : SV → List HO → Prop) : W (xwp Try.prog X K3 [(133, []), (132, []), (134, []), (138, []), (141, []), (149, [])] 60 (fxOf Try.f77 [] [⟨[0,1,0,1,1,1], [15,14,13,5], [(13, 173, 1), (5, 3, 1)]⟩]) [.as 18 (.v (.iface 207 (.agg #[.int .i64 (gN l k).a, .int .i64 (gN l k).b])))] (.at [0,0,1,0,1,1,1] :: .rnd [0,0,1,0,1,1,1] M :: [.blk 0, .at [1,1,1,1]]) ⟨[(15, .v (.int .i64 (k : Int))), (14, .v (.int .i64 (n : Int))), (13, .o 0), (5, .o 1)], [.rowc 173 1 n (.fn (cS l)), .rowc 3 1 k (.fn (cI out))]⟩ K R) = W (bif decide ((↑k : Int) < (↑n : Int)) then (∀ M : Mem, (0 : Int) ≤ (↑k : Int) ∧ (↑k : Int) < (↑n : Int)) ∧ (∀ M : Mem, k < n) ∧ (∀ M : Mem, stV (gN l k) = Value.iface 207 (Value.agg (Array.mk [vi64 (gN l k).2, vi64 (gN l k).3]))) ∧ (∀ M : Mem, (0 : Int) ≤ (gN l k).2 ∧ (gN l k).2 < (↑k : Int)) ∧ (∀ M : Mem, Int.toNat (gN l k).2 < k) ∧ (∀ M : Mem, (0 : Int) ≤ (gN l k).3 ∧ (gN l k).3 < (↑k : Int)) ∧ (∀ M : Mem, Int.toNat (gN l k).3 < k) ∧ (∀ M : Mem, (k + 1) * 8 ≤ 140737488355328 ∧ k + 1 ≤ 140737488355328) ∧ K [.rnd [0,0,1,0,1,1,1] M, .blk 0, .at [1,1,1,1]] (St.mk [(15, .v (vi64 (IntKind.wrap .i64 ((↑k : Int) + (1 : Int))))), (14, .v (vi64 (↑n : Int))), (13, .o 0), (5, .o 1)] [.rowc 173 1 n (.fn (cS l)), .rowc 3 1 (k + 1) (.app k (.fn (cI out)) (.lit 1 [.v (vi64 (if (1000 : Int) < IntKind.wrap .i64 (gI out (Int.toNat (gN l k).2) + gI out (Int.toNat (gN l k).3)) then (1000 : Int) else IntKind.wrap .i64 (gI out (Int.toNat (gN l k).2) + gI out (Int.toNat (gN l k).3))))]))]) else R (.o 0) [.rowc 3 1 k (.fn (cI out))]) := by kernel_rfl
theorem dgs (l : List Nd) (out : List Int) (n k M : Nat) (K : List It → St → Prop) (R : SV → List HO → Prop) : W (xwp Try.prog X K3 [(133, []), (132, []), (134, []), (138, []), (141, []), (149, [])] 60 (fxOf Try.f77 [] [⟨[0,1,0,1,1,1], [15,14,13,5], [(13, 173, 1), (5, 3, 1)]⟩]) [.as 18 (.v (.iface 209 (.agg #[.int .i64 (gN l k).a, .int .u64 (limb (gN l k).v 0 : Nat), .int .u64 (limb (gN l k).v 1 : Nat), .int .u64 (limb (gN l k).v 2 : Nat), .int .u64 (limb (gN l k).v 3 : Nat)])))] (.at [0,0,1,0,1,1,1] :: .rnd [0,0,1,0,1,1,1] M :: [.blk 0, .at [1,1,1,1]]) ⟨[(15, .v (.int .i64 (k : Int))), (14, .v (.int .i64 (n : Int))), (13, .o 0), (5, .o 1)], [.rowc 173 1 n (.fn (cS l)), .rowc 3 1 k (.fn (cI out))]⟩ K R) = W (bif decide ((↑k : Int) < (↑n : Int)) then (∀ M : Mem, (0 : Int) ≤ (↑k : Int) ∧ (↑k : Int) < (↑n : Int)) ∧ (∀ M : Mem, k < n) ∧ (∀ M : Mem, stV (gN l k) = Value.iface 209 (Value.agg (Array.mk [vi64 (gN l k).2, vu64 (↑(limb (gN l k).4 0) : Int), vu64 (↑(limb (gN l k).4 1) : Int), vu64 (↑(limb (gN l k).4 2) : Int), vu64 (↑(limb (gN l k).4 3) : Int)]))) ∧ (∀ M : Mem, (0 : Int) ≤ (gN l k).2 ∧ (gN l k).2 < (↑k : Int)) ∧ (∀ M : Mem, Int.toNat (gN l k).2 < k) ∧ (∀ M : Mem, (k + 1) * 8 ≤ 140737488355328 ∧ k + 1 ≤ 140737488355328) ∧ K [.rnd [0,0,1,0,1,1,1] M, .blk 0, .at [1,1,1,1]] (St.mk [(15, .v (vi64 (IntKind.wrap .i64 ((↑k : Int) + (1 : Int))))), (14, .v (vi64 (↑n : Int))), (13, .o 0), (5, .o 1)] [.rowc 173 1 n (.fn (cS l)), .rowc 3 1 (k + 1) (.app k (.fn (cI out)) (.lit 1 [.v (vi64 (if (1000 : Int) < gI out (Int.toNat (gN l k).2) then (1000 : Int) else gI out (Int.toNat (gN l k).2)))]))]) else R (.o 0) [.rowc 3 1 k (.fn (cI out))]) := by kernel_rfl
theorem dgq (l : List Nd) (out : List Int) (n k M : Nat) (K : List It → St → Prop) (R : SV → List HO → Prop) : W (xwp Try.prog X K3 [(133, []), (132, []), (134, []), (138, []), (141, []), (149, [])] 60 (fxOf Try.f77 [] [⟨[0,1,0,1,1,1], [15,14,13,5], [(13, 173, 1), (5, 3, 1)]⟩]) [.as 18 (.v (.iface 176 (.agg #[.int .i64 (gN l k).op, .int .i64 (gN l k).a, .int .i64 (gN l k).b])))] (.at [0,0,1,0,1,1,1] :: .rnd [0,0,1,0,1,1,1] M :: [.blk 0, .at [1,1,1,1]]) ⟨[(15, .v (.int .i64 (k : Int))), (14, .v (.int .i64 (n : Int))), (13, .o 0), (5, .o 1)], [.rowc 173 1 n (.fn (cS l)), .rowc 3 1 k (.fn (cI out))]⟩ K R) = W (bif decide ((↑k : Int) < (↑n : Int)) then (∀ M : Mem, (0 : Int) ≤ (↑k : Int) ∧ (↑k : Int) < (↑n : Int)) ∧ (∀ M : Mem, k < n) ∧ (∀ M : Mem, stV (gN l k) = Value.iface 176 (Value.agg (Array.mk [vi64 (gN l k).1, vi64 (gN l k).2, vi64 (gN l k).3]))) ∧ (∀ M : Mem, (k + 1) * 8 ≤ 140737488355328 ∧ k + 1 ≤ 140737488355328) ∧ K [.rnd [0,0,1,0,1,1,1] M, .blk 0, .at [1,1,1,1]] (St.mk [(15, .v (vi64 (IntKind.wrap .i64 ((↑k : Int) + (1 : Int))))), (14, .v (vi64 (↑n : Int))), (13, .o 0), (5, .o 1)] [.rowc 173 1 n (.fn (cS l)), .rowc 3 1 (k + 1) (.app k (.fn (cI out)) (.lit 1 [.v (vi64 1)]))]) else R (.o 0) [.rowc 3 1 k (.fn (cI out))]) := by kernel_rfl
theorem dgS (b : Bool) (l : List Nd) (K : List It → St → Prop) (R : SV → List HO → Prop) : W (xwp Try.prog X K3 [(133, []), (132, []), (134, []), (138, []), (141, []), (149, [])] 60 (fxOf Try.f77 [] [⟨[0,1,0,1,1,1], [15,14,13,5], [(13, 173, 1), (5, 3, 1)]⟩]) [] [.at []] ⟨argsS 0 [.x 0 []], [.ext b (.s false 7 l.length (cN l))]⟩ K R) = W (∃ (l_1 : List Nd), List.length l = List.length l_1 ∧ IsC (List.length l) 7 (cN l) (cN l_1) ∧ List.length l_1 ≤ 4398046511104 ∧ bif ordN 0 l_1 then K [.at [0,1,0,1,1,1], .blk 0, .at [1,1,1,1]] (St.mk [(15, .v (vi64 0)), (14, .v (vi64 (↑(List.length l) : Int))), (13, .o 0), (5, .o 1)] [.rowc 173 1 (List.length l) (.fn (cS l_1)), .rowc 3 1 0 (.lit 1 [])]) else K [.at [0,1,0,1,1,1], .blk 0, .at [1,1,1,1]] (St.mk [(15, .v (vi64 0)), (14, .v (vi64 0)), (13, .o 0), (5, .o 1)] [.rowc 173 1 0 (.lit 1 []), .rowc 3 1 0 (.lit 1 [])])) := by kernel_rfl
theorem dg_loop (all : List Nd) (hb : all.length ≤ 4398046511104) (m : Nat) (hm' : m = all.length ∧ ordN 0 all = true ∨ m = 0 ∧ ordN 0 all = false) (Q : SV → List HO → Prop) (hq : Q (.o 0) [.rowc 3 1 (degrees all).length (.fn (cI (degrees all)))]) :
    ∀ (d k : Nat) (out : List Int), k + d = m → out.length = k → (∀ z ∈ out, 0 ≤ z ∧ z ≤ 1000) → (m = all.length → degsN [] all = degsN out (all.drop k)) → (m = 0 → out = []) →
    FOk Try.prog Try.f77 Q (.rnd [0,0,1,0,1,1,1] (d + 1) :: [.blk 0, .at [1, 1, 1, 1]]) ⟨[(15, .v (.int .i64 (k : Int))), (14, .v (.int .i64 (m : Int))), (13, .o 0), (5, .o 1)], [.rowc 173 1 m (.fn (cS all)), .rowc 3 1 k (.fn (cI out))]⟩
  | 0, k, out, hd, hl, hz, he, h0 => by
    refine FOk.rnd (run_sound hm 60 ((dgc all out m k 0 _ _).mpr ⟨?_⟩))
    simp only [cond_dec]
    rw [if_neg (by omega)]
    have : degrees all = out := by
      rw [degrees]
      rcases hm' with ⟨h1, h2⟩ | ⟨h1, h2⟩
      · rw [if_pos h2, he h1, show k = all.length by omega, List.drop_length]; rfl
      · rw [if_neg (by rw [h2]; simp), h0 h1]
    rw [this, hl] at hq
    exact hq
  | d + 1, k, out, hd, hl, hz, he, h0 => by
    have hmm : m = all.length ∧ ordN 0 all = true := by rcases hm' with h | h <;> omega
    obtain ⟨hml, ho⟩ := hmm
    have hk : k < all.length := by omega
    have he := he hml
    rw [drop_gN hk, degsN] at he
    have hop := ordN_op all 0 ho _ (gN_mem hk)
    have hus := okN_iff k (gN all k)
    have hok : okN k (gN all k) = true := ordN_get ho k (gN all k) (by rw [gN, List.getD_eq_getElem?_getD, List.getElem?_eq_getElem hk]; rfl)
    rw [hok] at hus
    have hus := hus.1 rfl
    have b1 := getD_bound hz (gN all k).a.toNat
    have b2 := getD_bound hz (gN all k).b.toNat
    have hbd := degN_bound hz (gN all k)
    have yes : ∀ z, degN out (gN all k) = z → FOk Try.prog Try.f77 Q (.rnd [0,0,1,0,1,1,1] (d + 1) :: [.blk 0, .at [1, 1, 1, 1]]) ⟨[(15, .v (.int .i64 (IntKind.wrap .i64 ((k : Int) + 1)))), (14, .v (.int .i64 (m : Int))), (13, .o 0), (5, .o 1)], [.rowc 173 1 m (.fn (cS all)), .rowc 3 1 (k + 1) (.app k (.fn (cI out)) (.lit 1 [.v (.int .i64 z)]))]⟩ := fun z hz' => by
      rw [wrap_inc _ (by omega)]
      refine FOk.cv (dg_loop all hb m hm' Q hq d (k + 1) (out ++ [z]) (by omega) (by simp [hl]) (fun y hy => ?_) (fun _ => by rw [he, hz']) (fun h => by omega)) ⟨HE.refl _, ⟨rfl, rfl, rfl, cI_snoc z hl⟩, trivial⟩
      rcases List.mem_append.1 hy with h | h
      · exact hz y h
      · rw [List.mem_singleton] at h; rw [h, ← hz']; exact hbd
    by_cases h : (gN all k).op = 1
    · refine FOk.rnd (run_sound hm 60 ((dgc all out m k (d + 1) _ _).mpr ⟨?_⟩))
      simp only [cond_dec, forall_const]
      repeat' (first | refine And.intro ?_ ?_ | refine ite_intro (fun _ => ?_) (fun _ => ?_))
      all_goals first
        | omega
        | exact stV_c h
        | exact yes _ (by rw [degN_c out h]; rfl)
    by_cases h : (gN all k).op = 5
    · refine FOk.rnd (run_sound hm 60 ((dgn all out m k (d + 1) _ _).mpr ⟨?_⟩))
      simp only [cond_dec, forall_const]
      repeat' (first | refine And.intro ?_ ?_ | refine ite_intro (fun _ => ?_) (fun _ => ?_))
      all_goals first
        | omega
        | exact stV_n h
        | exact yes _ (degN_n out h)
    by_cases h : (gN all k).op = 6
    · refine FOk.rnd (run_sound hm 60 ((dga all out m k (d + 1) _ _).mpr ⟨?_⟩))
      simp only [cond_dec, forall_const]
      repeat' (first | refine And.intro ?_ ?_ | refine ite_intro (fun _ => ?_) (fun _ => ?_))
      all_goals first
        | omega
        | exact stV_a h
        | exact yes _ (degN_a out h)
    by_cases h : (gN all k).op = 7
    · refine FOk.rnd (run_sound hm 60 ((dgm all out m k (d + 1) _ _).mpr ⟨?_⟩))
      simp only [cond_dec, forall_const]
      repeat' (first | refine And.intro ?_ ?_ | refine ite_intro (fun _ => ?_) (fun _ => ?_))
      all_goals first
        | omega
        | exact stV_m h
        | exact yes _ (by rw [degN_m out h, wrap_in _ (by simp only [gI]; omega)]; rfl)
    by_cases h : (gN all k).op = 8
    · refine FOk.rnd (run_sound hm 60 ((dgs all out m k (d + 1) _ _).mpr ⟨?_⟩))
      simp only [cond_dec, forall_const]
      repeat' (first | refine And.intro ?_ ?_ | refine ite_intro (fun _ => ?_) (fun _ => ?_))
      all_goals first
        | omega
        | exact stV_s h
        | exact yes _ (degN_s out h)
    by_cases h : 2 ≤ (gN all k).op ∧ (gN all k).op ≤ 4
    · refine FOk.rnd (run_sound hm 60 ((dgq all out m k (d + 1) _ _).mpr ⟨?_⟩))
      simp only [cond_dec, forall_const]
      repeat' (first | refine And.intro ?_ ?_ | refine ite_intro (fun _ => ?_) (fun _ => ?_))
      all_goals first
        | omega
        | exact stV_q h
        | exact yes _ (by rw [degN_q out h]; rfl)
    omega
theorem bDeg : Try.f77.body.isSome = true := by kernel_rfl
theorem nDeg : Nat.ble [SV.x 0 []].length Try.f77.ntmps = true := by kernel_rfl
theorem degrees_ok (b : Bool) (all : List Nd) (hb : all.length ≤ 4398046511104) (Q : SV → List HO → Prop) (hq : Q (.o 0) [.rowc 3 1 (degrees all).length (.fn (cI (degrees all)))]) : FnOk Try.prog 77 [.x 0 []] [.ext b (.s false 7 all.length (cN all))] Q := by
  refine fn_of_ok Try.func77 bDeg ?_ ?_
  · exact nDeg
  refine run_sound hm 60 ((dgS b all _ _).mpr ⟨?_⟩)
  refine ⟨all, rfl, IsC.refl _ _ _, hb, cond_intro (fun ho => ?_) (fun ho => ?_)⟩
  · exact FOk.loop (all.length + 1) (by kernel_rfl) (FOk.cv (dg_loop all hb all.length (.inl ⟨rfl, ho⟩) Q hq all.length 0 [] (by omega) rfl (by simp) (fun _ => rfl) (fun _ => rfl)) ⟨HE.refl _, ⟨rfl, rfl, rfl, fun k hk => by omega⟩, trivial⟩)
  · exact FOk.loop 1 (by kernel_rfl) (FOk.cv (dg_loop all hb 0 (.inr ⟨rfl, ho⟩) Q hq 0 0 [] rfl rfl (by simp) (fun _ => rfl) (fun _ => rfl)) ⟨⟨rfl, rfl, rfl, fun k hk => by omega⟩, ⟨rfl, rfl, rfl, fun k hk => by omega⟩, trivial⟩)
noncomputable def gDeg : List SV → List HO → Option ((SV → List HO → Prop) → Prop)
  | [.x 0 []], [.ext _ (.s false 7 n c)] => some fun Q => ∃ l : List Nd, n = l.length ∧ IsC n 7 c (cN l) ∧ l.length ≤ 4398046511104 ∧ Q (.o 0) [.rowc 3 1 (degrees l).length (.fn (cI (degrees l)))]
  | _, _ => none
theorem gDeg_ok (args : List SV) (h : List HO) (tr : (SV → List HO → Prop) → Prop) (Q : SV → List HO → Prop) (hc : gDeg args h = some tr) (ht : tr Q) : FnOk Try.prog 77 args h Q := by
  unfold gDeg at hc
  split at hc
  · rename_i b n c
    simp only [Option.some.injEq] at hc
    subst hc
    obtain ⟨l, rfl, he, hb, hq⟩ := ht
    exact FnOk.ac (degrees_ok b l hb Q hq) ⟨⟨rfl, rfl, rfl, rfl, he⟩, trivial⟩
  · cases hc
end Go.Proofs.Ytlmjdcbhpffanaa
/- The queries of nodes. -/
namespace Go.Pl
open Go.Sx
theorem drop_gQ {l : List (Int × Int × Int)} {k : Nat} (h : k < l.length) : l.drop k = gQ l k :: l.drop (k + 1) := by
  rw [List.drop_eq_getElem_cons h, gQ, List.getD_eq_getElem?_getD, List.getElem?_eq_getElem h]; rfl
theorem idxF_drop {p : Int × Int × Int → Bool} {l : List (Int × Int × Int)} {k : Nat} (h : k < l.length) : idxF p k (l.drop k) = if p (gQ l k) then (k : Int) else idxF p (k + 1) (l.drop (k + 1)) := by
  rw [drop_gQ h, idxF]
end Go.Pl
namespace Go.Proofs.Ytlmjdcbhpffanaa
open Go.Sx Go.Pl
set_option linter.unusedVariables false
set_option maxRecDepth 100000
theorem ixR (b : Bool) (l : List (Int × Int × Int)) (n k M : Nat) (x y z : Int) (K : List It → St → Prop) (R : SV → List HO → Prop) : W (xwp Try.prog X K3 [] 60 (fxOf Try.f95 [] [⟨[0,1,0,1], [8,7,0,3], []⟩]) [] (.at [0,0,1,0,1] :: .rnd [0,0,1,0,1] M :: [.blk 0, .at [1,1]]) ⟨[(8, .v (.int .i64 (k : Int))), (7, .v (.int .i64 (n : Int))), (0, .x 0 []), (3, .p 1 0)], [.ext b (.s false 3 n (cQ l)), .cells [.v (.int .i64 x), .v (.int .i64 y), .v (.int .i64 z)] 128]⟩ K R) = W (bif decide ((↑k : Int) < (↑n : Int)) then (∀ M : Mem, (0 : Int) ≤ (↑k : Int) ∧ (↑k : Int) < (↑n : Int)) ∧ (∀ M : Mem, k < n) ∧ bif decide ([x, y, z] = [(gQ l k).1, (gQ l k).2.1, (gQ l k).2.2]) then R (.v (vi64 (↑k : Int))) [] else K [.rnd [0,0,1,0,1] M, .blk 0, .at [1,1]] (St.mk [(8, .v (vi64 (IntKind.wrap .i64 ((↑k : Int) + (1 : Int))))), (7, .v (vi64 (↑n : Int))), (0, .x 0 []), (3, .p 1 0)] [.ext b (.s false 3 n (cQ l)), .cells [.v (vi64 x), .v (vi64 y), .v (vi64 z)] 128]) else R (.v (vi64 (-1))) []) := by kernel_rfl
theorem ixS (b : Bool) (l : List (Int × Int × Int)) (x y z : Int) (K : List It → St → Prop) (R : SV → List HO → Prop) : W (xwp Try.prog X K3 [] 60 (fxOf Try.f95 [] [⟨[0,1,0,1], [8,7,0,3], []⟩]) [] [.at []] ⟨argsS 0 [.x 0 [], .agg [.v (.int .i64 x), .v (.int .i64 y), .v (.int .i64 z)]], [.ext b (.s false 3 l.length (cQ l))]⟩ K R) = W (K [.at [0,1,0,1], .blk 0, .at [1,1]] (St.mk [(8, .v (vi64 0)), (7, .v (vi64 (↑(List.length l) : Int))), (0, .x 0 []), (3, .p 1 0)] [.ext b (.s false 3 (List.length l) (cQ l)), .cells [.v (vi64 x), .v (vi64 y), .v (vi64 z)] 128])) := by kernel_rfl
theorem ix_loop (b : Bool) (all : List (Int × Int × Int)) (x y z : Int) (hb : all.length ≤ 4398046511104) (Q : SV → List HO → Prop) (hq : Q (.v (.int .i64 (idxF (sameQ x y z) 0 all))) []) :
    ∀ (d k : Nat), k + d = all.length → idxF (sameQ x y z) 0 all = idxF (sameQ x y z) k (all.drop k) →
    FOk Try.prog Try.f95 Q (.rnd [0,0,1,0,1] (d + 1) :: [.blk 0, .at [1, 1]]) ⟨[(8, .v (.int .i64 (k : Int))), (7, .v (.int .i64 (all.length : Int))), (0, .x 0 []), (3, .p 1 0)], [.ext b (.s false 3 all.length (cQ all)), .cells [.v (.int .i64 x), .v (.int .i64 y), .v (.int .i64 z)] 128]⟩
  | 0, k, hd, he => by
    refine FOk.rnd (run_sound hm 60 ((ixR b all all.length k 0 x y z _ _).mpr ⟨?_⟩))
    simp only [cond_dec]
    rw [if_neg (by omega)]
    rw [he, show k = all.length by omega, List.drop_length] at hq
    exact hq
  | d + 1, k, hd, he => by
    have hk : k < all.length := by omega
    rw [idxF_drop hk] at he
    refine FOk.rnd (run_sound hm 60 ((ixR b all all.length k (d + 1) x y z _ _).mpr ⟨?_⟩))
    simp only [cond_dec, forall_const]
    rw [if_pos (by omega)]
    repeat' (first | refine And.intro (by omega) ?_ | refine ite_intro (fun h => ?_) (fun h => ?_))
    · rw [he, if_pos (by rw [sameQ]; exact decide_eq_true h)] at hq; exact hq
    · rw [wrap_inc _ (by omega)]
      exact ix_loop b all x y z hb Q hq d (k + 1) (by omega) (by rw [he, if_neg (by rw [sameQ]; simpa using h)])
theorem bIx : Try.f95.body.isSome = true := by kernel_rfl
theorem nIx (x y z : Int) : Nat.ble [SV.x 0 [], .agg [.v (.int .i64 x), .v (.int .i64 y), .v (.int .i64 z)]].length Try.f95.ntmps = true := by kernel_rfl
theorem index_ok (b : Bool) (all : List (Int × Int × Int)) (x y z : Int) (hb : all.length ≤ 4398046511104) (Q : SV → List HO → Prop) (hq : Q (.v (.int .i64 (idxF (sameQ x y z) 0 all))) []) : FnOk Try.prog 95 [.x 0 [], .agg [.v (.int .i64 x), .v (.int .i64 y), .v (.int .i64 z)]] [.ext b (.s false 3 all.length (cQ all))] Q := by
  refine fn_of_ok Try.func95 bIx ?_ ?_
  · exact nIx x y z
  refine run_sound hm 60 ((ixS b all x y z _ _).mpr ⟨?_⟩)
  exact FOk.loop (all.length + 1) (by kernel_rfl) (ix_loop b all x y z hb Q hq all.length 0 (by omega) rfl)
noncomputable def gIx : List SV → List HO → Option ((SV → List HO → Prop) → Prop)
  | [.x 0 [], .agg [.v (.int .i64 x), .v (.int .i64 y), .v (.int .i64 z)]], [.ext _ (.s false 3 n c)] => some fun Q => ∃ l : List (Int × Int × Int), n = l.length ∧ IsC n 3 c (cQ l) ∧ l.length ≤ 4398046511104 ∧ Q (.v (.int .i64 (idxF (sameQ x y z) 0 l))) []
  | _, _ => none
theorem gIx_ok (args : List SV) (h : List HO) (tr : (SV → List HO → Prop) → Prop) (Q : SV → List HO → Prop) (hc : gIx args h = some tr) (ht : tr Q) : FnOk Try.prog 95 args h Q := by
  unfold gIx at hc
  split at hc
  · rename_i x y z b n c
    simp only [Option.some.injEq] at hc
    subst hc
    obtain ⟨l, rfl, he, hb, hq⟩ := ht
    exact FnOk.ac (index_ok b l x y z hb Q hq) ⟨⟨rfl, rfl, rfl, rfl, he⟩, trivial⟩
  · cases hc
noncomputable def K6 : Con Try.prog := (((K3.add 76 gChk gChk_ok).add 77 gDeg gDeg_ok).add 95 gIx gIx_ok)
end Go.Proofs.Ytlmjdcbhpffanaa
/- All queries. -/
namespace Go.Pl
open Go.Sx
theorem idx_has (a b c : Int) (l : List (Int × Int × Int)) : (0 ≤ idxF (sameQ a b c) 0 l) ↔ (a, b, c) ∈ l := by
  have h1 := idxF_any (sameQ a b c) l 0
  rw [any_sameQ] at h1
  by_cases h : (a, b, c) ∈ l
  · rw [decide_eq_true h, decide_eq_true_eq] at h1; exact ⟨fun _ => h, fun _ => h1⟩
  · rw [decide_eq_false h, decide_eq_false_iff_not] at h1; exact ⟨fun hh => absurd hh h1, fun hh => absurd hh h⟩
theorem qsN_no (out : List Qy) {x : Nd} (r : List Nd) (h : ¬ (2 ≤ x.op ∧ x.op ≤ 4)) : qsN out (x :: r) = qsN out r := by
  rw [qsN_step, qryN, decide_eq_false h]; rfl
theorem qsN_old (out : List Qy) {x : Nd} (r : List Nd) (h : (x.op, x.a, x.b) ∈ out) : qsN out (x :: r) = qsN out r := by
  rw [qsN_step, decide_eq_true h]; simp
theorem qsN_new (out : List Qy) {x : Nd} (r : List Nd) (h : 2 ≤ x.op ∧ x.op ≤ 4) (h2 : (x.op, x.a, x.b) ∉ out) : qsN out (x :: r) = qsN (out ++ [(x.op, x.a, x.b)]) r := by
  rw [qsN_step, qryN, decide_eq_true h, decide_eq_false h2]; rfl
end Go.Pl
namespace Go.Proofs.Ytlmjdcbhpffanaa
open Go.Sx Go.Pl
set_option linter.unusedVariables false
set_option maxRecDepth 100000
theorem qsR (b : Bool) (l : List Nd) (out : List (Int × Int × Int)) (n k m M : Nat) (K : List It → St → Prop) (R : SV → List HO → Prop) : W (xwp Try.prog X K6 [(93, []), (92, [])] 60 (fxOf Try.f70 [] [⟨[0,1,0,1,1], [12,11,10,3], [(3, 128, 3)]⟩]) [] (.at [0,0,1,0,1,1] :: .rnd [0,0,1,0,1,1] M :: [.blk 0, .at [1,1,1]]) ⟨[(12, .v (.int .i64 (k : Int))), (11, .v (.int .i64 (n : Int))), (10, .x 0 []), (3, .o 1)], [.ext b (.s false 7 n (cN l)), .rowc 128 3 m (.fn (cQ out))]⟩ K R) = W (bif decide ((↑k : Int) < (↑n : Int)) then (∀ M : Mem, (0 : Int) ≤ (↑k : Int) ∧ (↑k : Int) < (↑n : Int)) ∧ (∀ M : Mem, k < n) ∧ (∀ M : Mem, 0 + 7 ≤ 7) ∧ bif (gN l k).1 == (1 : Int) then (∀ M : Mem, 3 ≤ 3) ∧ K [.rnd [0,0,1,0,1,1] M, .blk 0, .at [1,1,1]] (St.mk [(12, .v (vi64 (IntKind.wrap .i64 ((↑k : Int) + (1 : Int))))), (11, .v (vi64 (↑n : Int))), (10, .x 0 []), (3, .o 1)] [.ext b (.s false 7 n (cN l)), .rowc 128 3 m (.fn (cQ out))]) else bif (gN l k).1 == (2 : Int) then (∀ M : Mem, 0 + 3 ≤ 3) ∧ ∃ (l_1 : List (Int × Int × Int)), m = List.length l_1 ∧ IsC m 3 (cQ out) (cQ l_1) ∧ List.length l_1 ≤ 4398046511104 ∧ bif !decide ((0 : Int) ≤ idxF (sameQ (gN l k).1 (gN l k).2 (gN l k).3) 0 l_1) then (∀ M : Mem, (m + 1) * 24 ≤ 140737488355328 ∧ m + 1 ≤ 140737488355328) ∧ K [.rnd [0,0,1,0,1,1] M, .blk 0, .at [1,1,1]] (St.mk [(12, .v (vi64 (IntKind.wrap .i64 ((↑k : Int) + (1 : Int))))), (11, .v (vi64 (↑n : Int))), (10, .x 0 []), (3, .o 1)] [.ext b (.s false 7 n (cN l)), .rowc 128 3 (m + 1) (.app m (.fn (cQ out)) (.lit 3 [.v (vi64 (gN l k).1), .v (vi64 (gN l k).2), .v (vi64 (gN l k).3)]))]) else K [.rnd [0,0,1,0,1,1] M, .blk 0, .at [1,1,1]] (St.mk [(12, .v (vi64 (IntKind.wrap .i64 ((↑k : Int) + (1 : Int))))), (11, .v (vi64 (↑n : Int))), (10, .x 0 []), (3, .o 1)] [.ext b (.s false 7 n (cN l)), .rowc 128 3 m (.fn (cQ out))]) else bif (gN l k).1 == (3 : Int) then (∀ M : Mem, 0 + 3 ≤ 3) ∧ ∃ (l_1 : List (Int × Int × Int)), m = List.length l_1 ∧ IsC m 3 (cQ out) (cQ l_1) ∧ List.length l_1 ≤ 4398046511104 ∧ bif !decide ((0 : Int) ≤ idxF (sameQ (gN l k).1 (gN l k).2 (gN l k).3) 0 l_1) then (∀ M : Mem, (m + 1) * 24 ≤ 140737488355328 ∧ m + 1 ≤ 140737488355328) ∧ K [.rnd [0,0,1,0,1,1] M, .blk 0, .at [1,1,1]] (St.mk [(12, .v (vi64 (IntKind.wrap .i64 ((↑k : Int) + (1 : Int))))), (11, .v (vi64 (↑n : Int))), (10, .x 0 []), (3, .o 1)] [.ext b (.s false 7 n (cN l)), .rowc 128 3 (m + 1) (.app m (.fn (cQ out)) (.lit 3 [.v (vi64 (gN l k).1), .v (vi64 (gN l k).2), .v (vi64 (gN l k).3)]))]) else K [.rnd [0,0,1,0,1,1] M, .blk 0, .at [1,1,1]] (St.mk [(12, .v (vi64 (IntKind.wrap .i64 ((↑k : Int) + (1 : Int))))), (11, .v (vi64 (↑n : Int))), (10, .x 0 []), (3, .o 1)] [.ext b (.s false 7 n (cN l)), .rowc 128 3 m (.fn (cQ out))]) else bif (gN l k).1 == (4 : Int) then (∀ M : Mem, 0 + 3 ≤ 3) ∧ ∃ (l_1 : List (Int × Int × Int)), m = List.length l_1 ∧ IsC m 3 (cQ out) (cQ l_1) ∧ List.length l_1 ≤ 4398046511104 ∧ bif !decide ((0 : Int) ≤ idxF (sameQ (gN l k).1 (gN l k).2 (gN l k).3) 0 l_1) then (∀ M : Mem, (m + 1) * 24 ≤ 140737488355328 ∧ m + 1 ≤ 140737488355328) ∧ K [.rnd [0,0,1,0,1,1] M, .blk 0, .at [1,1,1]] (St.mk [(12, .v (vi64 (IntKind.wrap .i64 ((↑k : Int) + (1 : Int))))), (11, .v (vi64 (↑n : Int))), (10, .x 0 []), (3, .o 1)] [.ext b (.s false 7 n (cN l)), .rowc 128 3 (m + 1) (.app m (.fn (cQ out)) (.lit 3 [.v (vi64 (gN l k).1), .v (vi64 (gN l k).2), .v (vi64 (gN l k).3)]))]) else K [.rnd [0,0,1,0,1,1] M, .blk 0, .at [1,1,1]] (St.mk [(12, .v (vi64 (IntKind.wrap .i64 ((↑k : Int) + (1 : Int))))), (11, .v (vi64 (↑n : Int))), (10, .x 0 []), (3, .o 1)] [.ext b (.s false 7 n (cN l)), .rowc 128 3 m (.fn (cQ out))]) else bif (gN l k).1 == (5 : Int) then (∀ M : Mem, 3 ≤ 3) ∧ K [.rnd [0,0,1,0,1,1] M, .blk 0, .at [1,1,1]] (St.mk [(12, .v (vi64 (IntKind.wrap .i64 ((↑k : Int) + (1 : Int))))), (11, .v (vi64 (↑n : Int))), (10, .x 0 []), (3, .o 1)] [.ext b (.s false 7 n (cN l)), .rowc 128 3 m (.fn (cQ out))]) else bif (gN l k).1 == (6 : Int) then (∀ M : Mem, 3 ≤ 3) ∧ K [.rnd [0,0,1,0,1,1] M, .blk 0, .at [1,1,1]] (St.mk [(12, .v (vi64 (IntKind.wrap .i64 ((↑k : Int) + (1 : Int))))), (11, .v (vi64 (↑n : Int))), (10, .x 0 []), (3, .o 1)] [.ext b (.s false 7 n (cN l)), .rowc 128 3 m (.fn (cQ out))]) else bif (gN l k).1 == (7 : Int) then (∀ M : Mem, 3 ≤ 3) ∧ K [.rnd [0,0,1,0,1,1] M, .blk 0, .at [1,1,1]] (St.mk [(12, .v (vi64 (IntKind.wrap .i64 ((↑k : Int) + (1 : Int))))), (11, .v (vi64 (↑n : Int))), (10, .x 0 []), (3, .o 1)] [.ext b (.s false 7 n (cN l)), .rowc 128 3 m (.fn (cQ out))]) else bif (gN l k).1 == (8 : Int) then (∀ M : Mem, 3 ≤ 3) ∧ K [.rnd [0,0,1,0,1,1] M, .blk 0, .at [1,1,1]] (St.mk [(12, .v (vi64 (IntKind.wrap .i64 ((↑k : Int) + (1 : Int))))), (11, .v (vi64 (↑n : Int))), (10, .x 0 []), (3, .o 1)] [.ext b (.s false 7 n (cN l)), .rowc 128 3 m (.fn (cQ out))]) else (∀ M : Mem, 3 ≤ 3) ∧ K [.rnd [0,0,1,0,1,1] M, .blk 0, .at [1,1,1]] (St.mk [(12, .v (vi64 (IntKind.wrap .i64 ((↑k : Int) + (1 : Int))))), (11, .v (vi64 (↑n : Int))), (10, .x 0 []), (3, .o 1)] [.ext b (.s false 7 n (cN l)), .rowc 128 3 m (.fn (cQ out))]) else R (.o 0) [.rowc 128 3 m (.fn (cQ out))]) := by kernel_rfl
theorem qsS (b : Bool) (l : List Nd) (K : List It → St → Prop) (R : SV → List HO → Prop) : W (xwp Try.prog X K6 [(93, []), (92, [])] 60 (fxOf Try.f70 [] [⟨[0,1,0,1,1], [12,11,10,3], [(3, 128, 3)]⟩]) [] [.at []] ⟨argsS 0 [.x 0 []], [.ext b (.s false 7 l.length (cN l))]⟩ K R) = W (K [.at [0,1,0,1,1], .blk 0, .at [1,1,1]] (St.mk [(12, .v (vi64 0)), (11, .v (vi64 (↑(List.length l) : Int))), (10, .x 0 []), (3, .o 1)] [.ext b (.s false 7 (List.length l) (cN l)), .rowc 128 3 0 (.lit 1 [])])) := by kernel_rfl
theorem qs_loop (b : Bool) (all : List Nd) (hb : all.length ≤ 4000000000000) (Q : SV → List HO → Prop) (hq : Q (.o 0) [.rowc 128 3 (qsN [] all).length (.fn (cQ (qsN [] all)))]) :
    ∀ (d k : Nat) (out : List (Int × Int × Int)), k + d = all.length → out.length ≤ k → qsN [] all = qsN out (all.drop k) →
    FOk Try.prog Try.f70 Q (.rnd [0,0,1,0,1,1] (d + 1) :: [.blk 0, .at [1, 1, 1]]) ⟨[(12, .v (.int .i64 (k : Int))), (11, .v (.int .i64 (all.length : Int))), (10, .x 0 []), (3, .o 1)], [.ext b (.s false 7 all.length (cN all)), .rowc 128 3 out.length (.fn (cQ out))]⟩
  | 0, k, out, hd, hl, he => by
    refine FOk.rnd (run_sound hm 60 ((qsR b all out all.length k out.length 0 _ _).mpr ⟨?_⟩))
    simp only [cond_dec]
    rw [if_neg (by omega)]
    rw [he, show k = all.length by omega, List.drop_length] at hq
    exact hq
  | d + 1, k, out, hd, hl, he => by
    have hk : k < all.length := by omega
    rw [drop_gN hk] at he
    have same : qsN out (gN all k :: all.drop (k + 1)) = qsN out (all.drop (k + 1)) → FOk Try.prog Try.f70 Q (.rnd [0,0,1,0,1,1] (d + 1) :: [.blk 0, .at [1, 1, 1]]) ⟨[(12, .v (.int .i64 (IntKind.wrap .i64 ((k : Int) + 1)))), (11, .v (.int .i64 (all.length : Int))), (10, .x 0 []), (3, .o 1)], [.ext b (.s false 7 all.length (cN all)), .rowc 128 3 out.length (.fn (cQ out))]⟩ := fun h => by
      rw [wrap_inc _ (by omega)]
      exact qs_loop b all hb Q hq d (k + 1) out (by omega) (by omega) (by rw [he, h])
    have new : ∀ o, o = (gN all k).op → 2 ≤ o ∧ o ≤ 4 → (o, (gN all k).a, (gN all k).b) ∉ out → FOk Try.prog Try.f70 Q (.rnd [0,0,1,0,1,1] (d + 1) :: [.blk 0, .at [1, 1, 1]]) ⟨[(12, .v (.int .i64 (IntKind.wrap .i64 ((k : Int) + 1)))), (11, .v (.int .i64 (all.length : Int))), (10, .x 0 []), (3, .o 1)], [.ext b (.s false 7 all.length (cN all)), .rowc 128 3 (out.length + 1) (.app out.length (.fn (cQ out)) (.lit 3 [.v (.int .i64 o), .v (.int .i64 (gN all k).a), .v (.int .i64 (gN all k).b)]))]⟩ := fun o ho h h2 => by
      rw [wrap_inc _ (by omega)]
      have next := qs_loop b all hb Q hq d (k + 1) (out ++ [(o, (gN all k).a, (gN all k).b)]) (by omega) (by simp; omega) (by rw [he, qsN_new out _ (by omega) (by rw [← ho]; exact h2), ho])
      rw [List.length_append, List.length_singleton] at next
      exact FOk.cv next ⟨HE.refl _, ⟨rfl, rfl, rfl, cQ_snoc (o, (gN all k).a, (gN all k).b) rfl⟩, trivial⟩
    refine FOk.rnd (run_sound hm 60 ((qsR b all out all.length k out.length (d + 1) _ _).mpr ⟨?_⟩))
    simp only [cond_dec, cond_beq, forall_const, cond_not, idx_has]
    repeat' (first | refine And.intro ?_ ?_ | refine ite_intro (fun _ => ?_) (fun _ => ?_) | refine Exists.intro out ?_)
    all_goals first
      | omega
      | exact IsC.refl _ _ _
      | exact same (qsN_no out _ (by omega))
      | (refine same (qsN_old out _ ?_); assumption)
      | (refine same (qsN_old out _ ?_); rename_i h1 h2; rw [h1]; exact h2)
      | (refine new _ ?_ ?_ ?_ <;> first | omega | assumption)
theorem bQs : Try.f70.body.isSome = true := by kernel_rfl
theorem nQs : Nat.ble [SV.x 0 []].length Try.f70.ntmps = true := by kernel_rfl
theorem queries_ok (b : Bool) (all : List Nd) (hb : all.length ≤ 4000000000000) (Q : SV → List HO → Prop) (hq : Q (.o 0) [.rowc 128 3 (qsN [] all).length (.fn (cQ (qsN [] all)))]) : FnOk Try.prog 70 [.x 0 []] [.ext b (.s false 7 all.length (cN all))] Q := by
  refine fn_of_ok Try.func70 bQs ?_ ?_
  · exact nQs
  refine run_sound hm 60 ((qsS b all _ _).mpr ⟨?_⟩)
  exact FOk.loop (all.length + 1) (by kernel_rfl) (FOk.cv (qs_loop b all hb Q hq all.length 0 [] (by omega) (Nat.le_refl _) rfl) ⟨HE.refl _, ⟨rfl, rfl, rfl, fun k hk => by omega⟩, trivial⟩)
noncomputable def gQs : List SV → List HO → Option ((SV → List HO → Prop) → Prop)
  | [.x 0 []], [.ext _ (.s false 7 n c)] => some fun Q => ∃ l : List Nd, n = l.length ∧ IsC n 7 c (cN l) ∧ l.length ≤ 4000000000000 ∧ Q (.o 0) [.rowc 128 3 (qsN [] l).length (.fn (cQ (qsN [] l)))]
  | _, _ => none
theorem gQs_ok (args : List SV) (h : List HO) (tr : (SV → List HO → Prop) → Prop) (Q : SV → List HO → Prop) (hc : gQs args h = some tr) (ht : tr Q) : FnOk Try.prog 70 args h Q := by
  unfold gQs at hc
  split at hc
  · rename_i b n c
    simp only [Option.some.injEq] at hc
    subst hc
    obtain ⟨l, rfl, he, hb, hq⟩ := ht
    exact FnOk.ac (queries_ok b l hb Q hq) ⟨⟨rfl, rfl, rfl, rfl, he⟩, trivial⟩
  · cases hc
end Go.Proofs.Ytlmjdcbhpffanaa
/- The table of contracts so far. -/
namespace Go.Proofs.Ytlmjdcbhpffanaa
open Go.Sx Go.Pl
set_option linter.unusedVariables false
noncomputable def K8 : Con Try.prog := ((K6.add 70 gQs gQs_ok))
end Go.Proofs.Ytlmjdcbhpffanaa
/- The document's side: the check, the degrees. -/
namespace Go.Pl
open Go.Sx
end Go.Pl
namespace Go.Proofs.Ytlmjdcbhpffanaa
open Go.Sx Go.Pl
set_option linter.unusedVariables false
set_option maxRecDepth 100000
end Go.Proofs.Ytlmjdcbhpffanaa
/- The document's queries; copies and comparisons. -/
namespace Go.Pl
open Go.Sx
end Go.Pl
namespace Go.Proofs.Ytlmjdcbhpffanaa
open Go.Sx Go.Pl
set_option linter.unusedVariables false
set_option maxRecDepth 100000
theorem cnS (l : List Nd) (K : List It → St → Prop) (R : SV → List HO → Prop) : W (xwp Try.prog X K8 [] 60 (fxOf Try.f34 [] []) [] [.at []] ⟨argsS 0 [.x 0 []], [.ext false (.s false 7 l.length (cN l))]⟩ K R) = W ((∀ M : Mem, (0 + List.length l) * 56 ≤ 140737488355328 ∧ 0 + List.length l ≤ 140737488355328) ∧ R (.o 0) [.rowc 113 7 (0 + List.length l) (.app 0 (.lit 7 []) (.fn (cN l)))]) := by kernel_rfl
theorem siR (b b2 : Bool) (l l2 : List Int) (n n2 k M : Nat) (K : List It → St → Prop) (R : SV → List HO → Prop) : W (xwp Try.prog X K8 [] 60 (fxOf Try.f17 [] [⟨[0,1,0,1,1], [5,4,0,1], []⟩]) [] (.at [0,0,1,0,1,1] :: .rnd [0,0,1,0,1,1] M :: [.blk 0, .at [1,1,1]]) ⟨[(5, .v (.int .i64 (k : Int))), (4, .v (.bool false)), (0, .x 0 []), (1, .x 1 [])], [.ext b (.s false 1 n (cI l)), .ext b2 (.s false 1 n2 (cI l2))]⟩ K R) = W (bif decide ((↑k : Int) < (↑n : Int)) then (∀ M : Mem, (0 : Int) ≤ (↑k : Int) ∧ (↑k : Int) < (↑n : Int)) ∧ (∀ M : Mem, k < n) ∧ (∀ M : Mem, (0 : Int) ≤ (↑k : Int) ∧ (↑k : Int) < (↑n2 : Int)) ∧ (∀ M : Mem, k < n2) ∧ bif !gI l k == gI l2 k then R (.v (.bool false)) [] else K [.rnd [0,0,1,0,1,1] M, .blk 0, .at [1,1,1]] (St.mk [(5, .v (vi64 (IntKind.wrap .i64 ((↑k : Int) + (1 : Int))))), (4, .v (.bool false)), (0, .x 0 []), (1, .x 1 [])] [.ext b (.s false 1 n (cI l)), .ext b2 (.s false 1 n2 (cI l2))]) else R (.v (.bool true)) []) := by kernel_rfl
theorem siS (b b2 : Bool) (l l2 : List Int) (n n2 : Nat) (K : List It → St → Prop) (R : SV → List HO → Prop) : W (xwp Try.prog X K8 [] 60 (fxOf Try.f17 [] [⟨[0,1,0,1,1], [5,4,0,1], []⟩]) [] [.at []] ⟨argsS 0 [.x 0 [], .x 1 []], [.ext b (.s false 1 n (cI l)), .ext b2 (.s false 1 n2 (cI l2))]⟩ K R) = W (bif !(↑n : Int) == (↑n2 : Int) then R (.v (.bool false)) [] else K [.at [0,1,0,1,1], .blk 0, .at [1,1,1]] (St.mk [(5, .v (vi64 0)), (4, .v (.bool false)), (0, .x 0 []), (1, .x 1 [])] [.ext b (.s false 1 n (cI l)), .ext b2 (.s false 1 n2 (cI l2))])) := by kernel_rfl
theorem bCp : Try.f34.body.isSome = true := by kernel_rfl
theorem nCp : Nat.ble [SV.x 0 []].length Try.f34.ntmps = true := by kernel_rfl
theorem copyN_ok (all : List Nd) (hb : all.length ≤ 2513169434916) (Q : SV → List HO → Prop) (hq : Q (.o 0) [.rowc 113 7 all.length (.fn (cN all))]) : FnOk Try.prog 34 [.x 0 []] [.ext false (.s false 7 all.length (cN all))] Q := by
  refine FnOk.mono (FnOk.eqv (r0 := .o 0) (h0 := [.rowc 113 7 all.length (.fn (cN all))]) ?_) (fun r h' hh => by rw [hh.1, hh.2]; exact hq)
  refine fn_of_ok Try.func34 bCp ?_ ?_
  · exact nCp
  refine run_sound hm 60 ((cnS all _ _).mpr ⟨?_⟩)
  refine ⟨fun _ => by omega, rfl, ⟨rfl, rfl, by omega, fun k hk j hj => ?_⟩, trivial⟩
  exact appC_ge _ _ _ (Nat.zero_le _)
noncomputable def gCp : List SV → List HO → Option ((SV → List HO → Prop) → Prop)
  | [.x 0 []], [.ext false (.s false 7 n c)] => some fun Q => ∃ l : List Nd, n = l.length ∧ IsC n 7 c (cN l) ∧ l.length ≤ 2513169434916 ∧ Q (.o 0) [.rowc 113 7 l.length (.fn (cN l))]
  | _, _ => none
theorem gCp_ok (args : List SV) (h : List HO) (tr : (SV → List HO → Prop) → Prop) (Q : SV → List HO → Prop) (hc : gCp args h = some tr) (ht : tr Q) : FnOk Try.prog 34 args h Q := by
  unfold gCp at hc
  split at hc
  · rename_i n c
    simp only [Option.some.injEq] at hc
    subst hc
    obtain ⟨l, rfl, he, hb, hq⟩ := ht
    exact FnOk.ac (copyN_ok l hb Q hq) ⟨⟨rfl, rfl, rfl, rfl, he⟩, trivial⟩
  · cases hc
theorem si_loop (b b2 : Bool) (l l2 : List Int) (hl : l.length = l2.length) (hb : l.length ≤ 4398046511104) (Q : SV → List HO → Prop) (hq1 : (∀ k, k < l.length → gI l k = gI l2 k) → Q (.v (.bool true)) []) (hq0 : (∃ k, k < l.length ∧ ¬ (gI l k = gI l2 k)) → Q (.v (.bool false)) []) :
    ∀ (d k : Nat), k + d = l.length → (∀ k', k' < k → gI l k' = gI l2 k') →
    FOk Try.prog Try.f17 Q (.rnd [0,0,1,0,1,1] (d + 1) :: [.blk 0, .at [1,1,1]]) ⟨[(5, .v (.int .i64 (k : Int))), (4, .v (.bool false)), (0, .x 0 []), (1, .x 1 [])], [.ext b (.s false 1 l.length (cI l)), .ext b2 (.s false 1 l2.length (cI l2))]⟩
  | 0, k, hd, he => by
    refine FOk.rnd (run_sound hm 60 ((siR b b2 l l2 l.length l2.length k 0 _ _).mpr ⟨?_⟩))
    simp only [cond_dec]
    rw [if_neg (by omega)]
    exact hq1 fun k' hk' => he k' (by omega)
  | d + 1, k, hd, he => by
    refine FOk.rnd (run_sound hm 60 ((siR b b2 l l2 l.length l2.length k (d + 1) _ _).mpr ⟨?_⟩))
    simp only [cond_dec, cond_not, cond_beq, forall_const]
    rw [if_pos (by omega)]
    repeat' (first | refine And.intro (by omega) ?_ | refine ite_intro (fun h => ?_) (fun h => ?_))
    · rw [wrap_inc _ (by omega)]
      refine si_loop b b2 l l2 hl hb Q hq1 hq0 d (k + 1) (by omega) fun k' hk' => ?_
      by_cases hh : k' = k
      · rw [hh]; exact h
      · exact he k' (by omega)
    · exact hq0 ⟨k, by omega, h⟩
theorem bsi : Try.f17.body.isSome = true := by kernel_rfl
theorem nsi : Nat.ble [SV.x 0 [], .x 1 []].length Try.f17.ntmps = true := by kernel_rfl
theorem si_ok (b b2 : Bool) (l l2 : List Int) (hb : l.length ≤ 4398046511104) (Q : SV → List HO → Prop) (hq1 : l.length = l2.length → (∀ k, k < l.length → gI l k = gI l2 k) → Q (.v (.bool true)) []) (hq0 : (l.length ≠ l2.length ∨ ∃ k, k < l.length ∧ ¬ (gI l k = gI l2 k)) → Q (.v (.bool false)) []) : FnOk Try.prog 17 [.x 0 [], .x 1 []] [.ext b (.s false 1 l.length (cI l)), .ext b2 (.s false 1 l2.length (cI l2))] Q := by
  refine fn_of_ok Try.func17 bsi ?_ ?_
  · exact nsi
  refine run_sound hm 60 ((siS b b2 l l2 l.length l2.length _ _).mpr ⟨?_⟩)
  simp only [cond_not, cond_beq]
  refine ite_intro (fun h => ?_) (fun h => hq0 (.inl (by omega)))
  have h' : l.length = l2.length := by omega
  exact FOk.loop (l.length + 1) (by kernel_rfl) (si_loop b b2 l l2 h' hb Q (hq1 h') (fun hh => hq0 (.inr hh)) l.length 0 (by omega) fun k' hk' => by omega)
end Go.Proofs.Ytlmjdcbhpffanaa
/- The document's queries; the comparisons as contracts; the table. -/
namespace Go.Pl
open Go.Sx
deriving instance DecidableEq for Nd
theorem ext_gI {l l2 : List Int} (h : l.length = l2.length) (e : ∀ k, k < l.length → gI l k = gI l2 k) : l = l2 :=
  List.ext_getElem h fun k hk hk2 => by have := e k hk; simpa only [gI, List.getD_eq_getElem?_getD, List.getElem?_eq_getElem hk, List.getElem?_eq_getElem hk2, Option.getD_some] using this
theorem ext_gQ {l l2 : List (Int × Int × Int)} (h : l.length = l2.length) (e : ∀ k, k < l.length → gQ l k = gQ l2 k) : l = l2 :=
  List.ext_getElem h fun k hk hk2 => by have := e k hk; simpa only [gQ, List.getD_eq_getElem?_getD, List.getElem?_eq_getElem hk, List.getElem?_eq_getElem hk2, Option.getD_some] using this
theorem q_eq {x y : Int × Int × Int} (h : [x.1, x.2.1, x.2.2] = [y.1, y.2.1, y.2.2]) : x = y := by
  simp only [List.cons.injEq, and_true] at h
  exact Prod.ext h.1 (Prod.ext h.2.1 h.2.2)
end Go.Pl
namespace Go.Proofs.Ytlmjdcbhpffanaa
open Go.Sx Go.Pl
set_option linter.unusedVariables false
set_option maxRecDepth 100000
noncomputable def gSi : List SV → List HO → Option ((SV → List HO → Prop) → Prop)
  | [.x 0 [], .x 1 []], [.ext _ (.s false 1 n c), .ext _ (.s false 1 n2 c2)] => some fun Q => ∃ l : List Int, n = l.length ∧ IsC n 1 c (cI l) ∧ l.length ≤ 4398046511104 ∧ ∃ l2 : List Int, n2 = l2.length ∧ IsC n2 1 c2 (cI l2) ∧ Q (.v (.bool (decide (l = l2)))) []
  | _, _ => none
theorem gSi_ok (args : List SV) (h : List HO) (tr : (SV → List HO → Prop) → Prop) (Q : SV → List HO → Prop) (hc : gSi args h = some tr) (ht : tr Q) : FnOk Try.prog 17 args h Q := by
  unfold gSi at hc
  split at hc
  · rename_i b n c b2 n2 c2
    simp only [Option.some.injEq] at hc
    subst hc
    obtain ⟨l, rfl, he, hb, l2, rfl, he2, hq⟩ := ht
    refine FnOk.ac (si_ok b b2 l l2 hb Q (fun h1 h2 => ?_) (fun h1 => ?_)) ⟨⟨rfl, rfl, rfl, rfl, he⟩, ⟨rfl, rfl, rfl, rfl, he2⟩, trivial⟩
    · rw [decide_eq_true (ext_gI h1 h2)] at hq; exact hq
    · rw [decide_eq_false (fun hh => by subst hh; exact h1.elim (fun h => h rfl) (fun ⟨_, _, h⟩ => h rfl))] at hq; exact hq
  · cases hc
noncomputable def K10 : Con Try.prog := (((((((K8))).add 34 gCp gCp_ok).add 17 gSi gSi_ok)))
end Go.Proofs.Ytlmjdcbhpffanaa
/- The document's queries. -/
namespace Go.Proofs.Ytlmjdcbhpffanaa
open Go.Sx Go.Pl
set_option linter.unusedVariables false
set_option maxRecDepth 100000
noncomputable def K12 : Con Try.prog := K10
end Go.Proofs.Ytlmjdcbhpffanaa
/- Reversing a list. -/
namespace Go.Pl
open Go.Sx
def cF (f : Nat → Int) : Nat → Nat → Cell := fun k _ => .v (.int .i64 (f k))
def swF (c : Nat → Int) (i j : Nat) : Nat → Int := fun p => if p = j then c i else if p = i then c j else c p
theorem cF_swap (c : Nat → Int) (i j n : Nat) : IsC n 1 (Ct.upd (Ct.upd (.fn (cF c)) i 0 [.v (.int .i64 (c j))]) j 0 [.v (.int .i64 (c i))]).at (Ct.fn (cF (swF c i j))).at := by
  intro k hk p hp
  have : p = 0 := by omega
  subst this
  simp only [Ct.at, updC_at, cF, swF, List.length_singleton, Nat.sub_zero, Nat.le_refl, Nat.zero_lt_one, and_true]
  by_cases h1 : k = j
  · simp [h1]
  · by_cases h2 : k = i
    · simp [h2, show ¬ i = j from fun hh => h1 (h2.trans hh)]
    · simp [h1, h2]
end Go.Pl
namespace Go.Proofs.Ytlmjdcbhpffanaa
open Go.Sx Go.Pl
set_option linter.unusedVariables false
set_option maxRecDepth 100000
theorem rvR (n i j M : Nat) (c : Nat → Int) (K : List It → St → Prop) (R : SV → List HO → Prop) : W (xwp Try.prog X K12 [] 60 (fxM 1 Try.f99 [] [⟨[0,1], [2,3,0], []⟩]) [] (.at [0,0,1] :: .rnd [0,0,1] M :: [.blk 0]) ⟨[(2, .v (.int .i64 (i : Int))), (3, .v (.int .i64 (j : Int))), (0, .o 0)], [.rowc 3 1 n (.fn (cF c))]⟩ K R) = W (bif decide ((↑i : Int) < (↑j : Int)) then (∀ M : Mem, (0 : Int) ≤ (↑j : Int) ∧ (↑j : Int) < (↑n : Int)) ∧ (∀ M : Mem, j < n) ∧ (∀ M : Mem, (0 : Int) ≤ (↑i : Int) ∧ (↑i : Int) < (↑n : Int)) ∧ (∀ M : Mem, i < n) ∧ (∀ M : Mem, (0 : Int) ≤ (↑i : Int) ∧ (↑i : Int) < (↑n : Int)) ∧ (∀ M : Mem, i < n) ∧ (∀ M : Mem, (0 : Int) ≤ (↑j : Int) ∧ (↑j : Int) < (↑n : Int)) ∧ (∀ M : Mem, j < n) ∧ K [.rnd [0,0,1] M, .blk 0] (St.mk [(2, .v (vi64 (IntKind.wrap .i64 ((↑i : Int) + (1 : Int))))), (3, .v (vi64 (IntKind.wrap .i64 ((↑j : Int) - (1 : Int))))), (0, .o 0)] [.rowc 3 1 n (.upd (.upd (.fn (cF c)) i 0 [.v (vi64 (c j))]) j 0 [.v (vi64 (c i))])]) else R (.tup []) [.rowc 3 1 n (.fn (cF c))]) := by kernel_rfl
theorem rvS (n : Nat) (c : Nat → Int) (K : List It → St → Prop) (R : SV → List HO → Prop) : W (xwp Try.prog X K12 [] 60 (fxM 1 Try.f99 [] [⟨[0,1], [2,3,0], []⟩]) [] [.at []] ⟨argsS 0 [.o 0], [.rowc 3 1 n (.fn (cF c))]⟩ K R) = W (K [.at [0,1], .blk 0] (St.mk [(2, .v (vi64 0)), (3, .v (vi64 (IntKind.wrap .i64 ((↑n : Int) - (1 : Int))))), (0, .o 0)] [.rowc 3 1 n (.fn (cF c))])) := by kernel_rfl
theorem rvE (M : Nat) (n : Nat) (c : Nat → Int) (K : List It → St → Prop) (R : SV → List HO → Prop) : W (xwp Try.prog X K12 [] 60 (fxM 1 Try.f99 [] [⟨[0,1], [2,3,0], []⟩]) [] (.at [0,0,1] :: .rnd [0,0,1] M :: [.blk 0]) ⟨[(2, .v (.int .i64 0)), (3, .v (.int .i64 (-1))), (0, .o 0)], [.rowc 3 1 n (.fn (cF c))]⟩ K R) = W (R (.tup []) [.rowc 3 1 n (.fn (cF c))]) := by kernel_rfl
theorem rv_loop (n : Nat) (hn : 0 < n) (hb : n ≤ 4398046511104) (c0 : Nat → Int) (Q : SV → List HO → Prop) (hq : ∀ c : Nat → Int, (∀ p, p < n → c p = c0 (n - 1 - p)) → Q (.tup []) [.rowc 3 1 n (.fn (cF c))]) :
    ∀ (d k : Nat) (c : Nat → Int), k + d = n → 2 * k ≤ n → (∀ p, p < n → c p = if p < k ∨ n - k ≤ p then c0 (n - 1 - p) else c0 p) →
    FOkM Try.prog 1 Try.f99 Q (.rnd [0,0,1] (d + 1) :: [.blk 0]) ⟨[(2, .v (.int .i64 (k : Int))), (3, .v (.int .i64 ((n - 1 - k : Nat) : Int))), (0, .o 0)], [.rowc 3 1 n (.fn (cF c))]⟩
  | 0, k, c, hd, hk, he => by omega
  | d + 1, k, c, hd, hk, he => by
    refine FOk.rnd (run_soundM hm 60 ((rvR n k (n - 1 - k) (d + 1) c _ _).mpr ⟨?_⟩))
    simp only [cond_dec, forall_const]
    refine ite_intro (fun h => ?_) (fun h => ?_)
    · repeat' (first | refine And.intro (by omega) ?_)
      rw [wrap_inc _ (by omega), wrap_dec _ (by omega), show ((n - 1 - k : Nat) : Int) - 1 = ((n - 1 - (k + 1) : Nat) : Int) by omega]
      refine FOk.cv (rv_loop n hn hb c0 Q hq d (k + 1) (swF c k (n - 1 - k)) (by omega) (by omega) (fun p hp => ?_)) ⟨⟨rfl, rfl, rfl, cF_swap c k (n - 1 - k) n⟩, trivial⟩
      unfold swF
      by_cases h1 : p = n - 1 - k
      · rw [if_pos h1, if_pos (by omega), he k (by omega), if_neg (by omega), show n - 1 - p = k by omega]
      · rw [if_neg h1]
        by_cases h2 : p = k
        · rw [if_pos h2, if_pos (by omega), he (n - 1 - k) (by omega), if_neg (by omega), h2]
        · rw [if_neg h2, he p hp]
          by_cases h3 : p < k ∨ n - k ≤ p
          · rw [if_pos h3, if_pos (by omega)]
          · rw [if_neg h3, if_neg (by omega)]
    · refine hq c fun p hp => ?_
      rw [he p hp]
      by_cases h3 : p < k ∨ n - k ≤ p
      · rw [if_pos h3]
      · rw [if_neg h3, show n - 1 - p = p by omega]
theorem bRv : Try.f99.body.isSome = true := by kernel_rfl
theorem nRv : Nat.ble [SV.o 0].length Try.f99.ntmps = true := by kernel_rfl
theorem reverse_ok (n : Nat) (hb : n ≤ 4398046511104) (c0 : Nat → Int) (Q : SV → List HO → Prop) (hq : ∀ c : Nat → Int, (∀ p, p < n → c p = c0 (n - 1 - p)) → Q (.tup []) [.rowc 3 1 n (.fn (cF c))]) : FnOkM Try.prog 1 99 [.o 0] [.rowc 3 1 n (.fn (cF c0))] Q := by
  refine fn_of_ok Try.func99 bRv ?_ ?_
  · exact nRv
  refine run_soundM hm 60 ((rvS n c0 _ _).mpr ⟨?_⟩)
  rcases Nat.eq_zero_or_pos n with h0 | h0
  · rw [show IntKind.wrap .i64 ((n : Int) - 1) = -1 by rw [wrap_dec _ (by omega)]; omega]
    refine FOk.loop 1 (by kernel_rfl) (FOk.rnd (run_soundM hm 60 ((rvE 0 n c0 _ _).mpr ⟨?_⟩)))
    exact hq c0 fun p hp => by omega
  · rw [wrap_dec _ (by omega), show (n : Int) - 1 = ((n - 1 - 0 : Nat) : Int) by omega]
    exact FOk.loop (n + 1) (by kernel_rfl) (rv_loop n h0 hb c0 Q hq n 0 c0 (by omega) (by omega) fun p hp => by rw [if_neg (by omega)])
noncomputable def gRv : List SV → List HO → Option ((SV → List HO → Prop) → Prop)
  | [.o 0], [.rowc 3 1 n c] => some fun Q => ∃ l : List Int, n = l.length ∧ IsC n 1 c.at (cI l) ∧ l.length ≤ 4398046511104 ∧ Q (.tup []) [.rowc 3 1 l.length (.fn (cI l.reverse))]
  | _, _ => none
theorem gRv_ok (args : List SV) (h : List HO) (tr : (SV → List HO → Prop) → Prop) (Q : SV → List HO → Prop) (hc : gRv args h = some tr) (ht : tr Q) : FnOkM Try.prog h.length 99 args h Q := by
  unfold gRv at hc
  split at hc
  · rename_i n c
    simp only [Option.some.injEq] at hc
    subst hc
    obtain ⟨l, rfl, he, hb, hq⟩ := ht
    refine FnOk.mono (FnOk.eqv (r0 := .tup []) (h0 := [.rowc 3 1 l.length (.fn (cI l.reverse))]) ?_) (fun r h' hh => by rw [hh.1, hh.2]; exact hq)
    refine FnOk.ac (reverse_ok l.length hb (gI l) _ fun c hc => ?_) ⟨⟨rfl, rfl, rfl, he⟩, trivial⟩
    refine ⟨rfl, ⟨rfl, rfl, rfl, fun k hk j hj => ?_⟩, trivial⟩
    show Cell.v (.int .i64 (c k)) = Cell.v (.int .i64 (gI l.reverse k))
    rw [hc k hk]
    simp only [gI, List.getD_eq_getElem?_getD, List.getElem?_reverse hk]
  · cases hc
noncomputable def K13 : Con Try.prog := K12.addW 99 gRv gRv_ok
end Go.Proofs.Ytlmjdcbhpffanaa
/- A node's cone. -/
namespace Go.Pl
open Go.Sx
theorem updC_congr {n sz : Nat} {c c' : Nat → Nat → Cell} (h : IsC n sz c c') (k j : Nat) (l : List Cell) : IsC n sz (updC c k j l) (updC c' k j l) := by
  intro a ha b hb
  rw [updC_at, updC_at]
  split
  · rfl
  · exact h a ha b hb
theorem cB_set2 {w : List Bool} {n a b : Nat} (h : w.length = n) (ha : a < n) (hb : b < n) : IsC n 1 (Ct.upd (Ct.upd (.fn (cB w)) a 0 [.v (.bool true)]) b 0 [.v (.bool true)]).at (Ct.fn (cB ((w.set a true).set b true))).at :=
  IsC.trans (updC_congr (cB_set true h ha) b 0 [.v (.bool true)]) (cB_set true (by rw [List.length_set]; exact h) hb)
theorem markN_us {l : List Nd} {k : Nat} {w : List Bool} (hk : k < l.length) (h : gB w k = true) : markN l k w = (usesN (gN l k)).foldl (fun w j => w.set j.toNat true) w := by
  have h' : w.getD k false = true := h
  rw [markN, if_pos h', gN, List.getD_eq_getElem?_getD, List.getElem?_eq_getElem hk]
  rfl
theorem col_yes {l : List Nd} {k : Nat} {w : List Bool} (out : List Int) (h : gB w k = true) : colN l (k + 1) w out = colN l k (markN l k w) (out ++ [(k : Int)]) := by
  rw [colN, if_pos (show w.getD k false = true from h)]
theorem col_no {l : List Nd} {k : Nat} {w : List Bool} (out : List Int) (h : gB w k = false) : colN l (k + 1) w out = colN l k w out := by
  rw [colN, if_neg (by rw [show w.getD k false = false from h]; exact Bool.false_ne_true)]
end Go.Pl
namespace Go.Proofs.Ytlmjdcbhpffanaa
open Go.Sx Go.Pl
set_option linter.unusedVariables false
set_option maxRecDepth 100000
theorem coc (l : List Nd) (w : List Bool) (out : List Int) (n k m M : Nat) (K : List It → St → Prop) (R : SV → List HO → Prop) : W (xwp Try.prog X K13 [(135, []), (139, []), (142, []), (150, [])] 60 (fxOf Try.f75 [([0,1,0,1,1,1,1,0,0,1,0,0,1,0,1,1,1,1,1,1],3)] [⟨[0,1,0,1,1,1,1,1,1], [9,7,8,5], [(8, 3, 1)]⟩]) [.as 55 (.v (.iface 183 (.agg #[.int .u64 (limb (gN l k).v 0 : Nat), .int .u64 (limb (gN l k).v 1 : Nat), .int .u64 (limb (gN l k).v 2 : Nat), .int .u64 (limb (gN l k).v 3 : Nat)])))] (.at [0,0,1,0,1,1,1,1,1,1] :: .rnd [0,0,1,0,1,1,1,1,1,1] M :: [.blk 0, .at [1,1,1,1,1,1,1]]) ⟨[(9, .v (.int .i64 (k : Int))), (7, .o 0), (8, .o 1), (5, .o 2)], [.rowc 4 1 n (.fn (cB w)), .rowc 3 1 m (.fn (cI out)), .rowc 173 1 n (.fn (cS l))]⟩ K R) = W ((∀ M : Mem, (0 : Int) ≤ (↑k : Int) ∧ (↑k : Int) < (↑n : Int)) ∧ (∀ M : Mem, k < n) ∧ bif !gB w k then K [.rnd [0,0,1,0,1,1,1,1,1,1] M, .blk 0, .at [1,1,1,1,1,1,1]] (St.mk [(9, .v (vi64 (IntKind.wrap .i64 ((↑k : Int) - (1 : Int))))), (7, .o 0), (8, .o 1), (5, .o 2)] [.rowc 4 1 n (.fn (cB w)), .rowc 3 1 m (.fn (cI out)), .rowc 173 1 n (.fn (cS l))]) else (∀ M : Mem, (m + 1) * 8 ≤ 140737488355328 ∧ m + 1 ≤ 140737488355328) ∧ (∀ M : Mem, (0 : Int) ≤ (↑k : Int) ∧ (↑k : Int) < (↑n : Int)) ∧ (∀ M : Mem, k < n) ∧ (∀ M : Mem, stV (gN l k) = Value.iface 183 (Value.agg (Array.mk [vu64 (↑(limb (gN l k).4 0) : Int), vu64 (↑(limb (gN l k).4 1) : Int), vu64 (↑(limb (gN l k).4 2) : Int), vu64 (↑(limb (gN l k).4 3) : Int)]))) ∧ K [.rnd [0,0,1,0,1,1,1,1,1,1] M, .blk 0, .at [1,1,1,1,1,1,1]] (St.mk [(9, .v (vi64 (IntKind.wrap .i64 ((↑k : Int) - (1 : Int))))), (7, .o 0), (8, .o 1), (5, .o 2)] [.rowc 4 1 n (.fn (cB w)), .rowc 3 1 (m + 1) (.app m (.fn (cI out)) (.lit 1 [.v (vi64 (↑k : Int))])), .rowc 173 1 n (.fn (cS l))])) := by kernel_rfl
theorem con (l : List Nd) (w : List Bool) (out : List Int) (n k m M : Nat) (K : List It → St → Prop) (R : SV → List HO → Prop) : W (xwp Try.prog X K13 [(135, []), (139, []), (142, []), (150, [])] 60 (fxOf Try.f75 [([0,1,0,1,1,1,1,0,0,1,0,0,1,0,1,1,1,1,1,1],3)] [⟨[0,1,0,1,1,1,1,1,1], [9,7,8,5], [(8, 3, 1)]⟩]) [.as 55 (.v (.iface 204 (.agg #[.int .i64 (gN l k).a])))] (.at [0,0,1,0,1,1,1,1,1,1] :: .rnd [0,0,1,0,1,1,1,1,1,1] M :: [.blk 0, .at [1,1,1,1,1,1,1]]) ⟨[(9, .v (.int .i64 (k : Int))), (7, .o 0), (8, .o 1), (5, .o 2)], [.rowc 4 1 n (.fn (cB w)), .rowc 3 1 m (.fn (cI out)), .rowc 173 1 n (.fn (cS l))]⟩ K R) = W ((∀ M : Mem, (0 : Int) ≤ (↑k : Int) ∧ (↑k : Int) < (↑n : Int)) ∧ (∀ M : Mem, k < n) ∧ bif !gB w k then K [.rnd [0,0,1,0,1,1,1,1,1,1] M, .blk 0, .at [1,1,1,1,1,1,1]] (St.mk [(9, .v (vi64 (IntKind.wrap .i64 ((↑k : Int) - (1 : Int))))), (7, .o 0), (8, .o 1), (5, .o 2)] [.rowc 4 1 n (.fn (cB w)), .rowc 3 1 m (.fn (cI out)), .rowc 173 1 n (.fn (cS l))]) else (∀ M : Mem, (m + 1) * 8 ≤ 140737488355328 ∧ m + 1 ≤ 140737488355328) ∧ (∀ M : Mem, (0 : Int) ≤ (↑k : Int) ∧ (↑k : Int) < (↑n : Int)) ∧ (∀ M : Mem, k < n) ∧ (∀ M : Mem, stV (gN l k) = Value.iface 204 (Value.agg (Array.mk [vi64 (gN l k).2]))) ∧ (∀ M : Mem, (0 : Int) ≤ (0 : Int) ∧ (0 : Int) < (1 : Int)) ∧ (∀ M : Mem, 0 < 1) ∧ (∀ M : Mem, (0 : Int) ≤ (gN l k).2 ∧ (gN l k).2 < (↑n : Int)) ∧ (∀ M : Mem, Int.toNat (gN l k).2 < n) ∧ K [.rnd [0,0,1,0,1,1,1,1,1,1] M, .blk 0, .at [1,1,1,1,1,1,1]] (St.mk [(9, .v (vi64 (IntKind.wrap .i64 ((↑k : Int) - (1 : Int))))), (7, .o 0), (8, .o 1), (5, .o 2)] [.rowc 4 1 n (.upd (.fn (cB w)) (Int.toNat (gN l k).2) 0 [.v (.bool true)]), .rowc 3 1 (m + 1) (.app m (.fn (cI out)) (.lit 1 [.v (vi64 (↑k : Int))])), .rowc 173 1 n (.fn (cS l))])) := by kernel_rfl
theorem coa (l : List Nd) (w : List Bool) (out : List Int) (n k m M : Nat) (K : List It → St → Prop) (R : SV → List HO → Prop) : W (xwp Try.prog X K13 [(135, []), (139, []), (142, []), (150, [])] 60 (fxOf Try.f75 [([0,1,0,1,1,1,1,0,0,1,0,0,1,0,1,1,1,1,1,1],3)] [⟨[0,1,0,1,1,1,1,1,1], [9,7,8,5], [(8, 3, 1)]⟩]) [.as 55 (.v (.iface 206 (.agg #[.int .i64 (gN l k).a, .int .i64 (gN l k).b])))] (.at [0,0,1,0,1,1,1,1,1,1] :: .rnd [0,0,1,0,1,1,1,1,1,1] M :: [.blk 0, .at [1,1,1,1,1,1,1]]) ⟨[(9, .v (.int .i64 (k : Int))), (7, .o 0), (8, .o 1), (5, .o 2)], [.rowc 4 1 n (.fn (cB w)), .rowc 3 1 m (.fn (cI out)), .rowc 173 1 n (.fn (cS l))]⟩ K R) = W ((∀ M : Mem, (0 : Int) ≤ (↑k : Int) ∧ (↑k : Int) < (↑n : Int)) ∧ (∀ M : Mem, k < n) ∧ bif !gB w k then K [.rnd [0,0,1,0,1,1,1,1,1,1] M, .blk 0, .at [1,1,1,1,1,1,1]] (St.mk [(9, .v (vi64 (IntKind.wrap .i64 ((↑k : Int) - (1 : Int))))), (7, .o 0), (8, .o 1), (5, .o 2)] [.rowc 4 1 n (.fn (cB w)), .rowc 3 1 m (.fn (cI out)), .rowc 173 1 n (.fn (cS l))]) else (∀ M : Mem, (m + 1) * 8 ≤ 140737488355328 ∧ m + 1 ≤ 140737488355328) ∧ (∀ M : Mem, (0 : Int) ≤ (↑k : Int) ∧ (↑k : Int) < (↑n : Int)) ∧ (∀ M : Mem, k < n) ∧ (∀ M : Mem, stV (gN l k) = Value.iface 206 (Value.agg (Array.mk [vi64 (gN l k).2, vi64 (gN l k).3]))) ∧ (∀ M : Mem, (0 : Int) ≤ (0 : Int) ∧ (0 : Int) < (2 : Int)) ∧ (∀ M : Mem, 0 < 2) ∧ (∀ M : Mem, (0 : Int) ≤ (gN l k).2 ∧ (gN l k).2 < (↑n : Int)) ∧ (∀ M : Mem, Int.toNat (gN l k).2 < n) ∧ (∀ M : Mem, (0 : Int) ≤ (1 : Int) ∧ (1 : Int) < (2 : Int)) ∧ (∀ M : Mem, 1 < 2) ∧ (∀ M : Mem, (0 : Int) ≤ (gN l k).3 ∧ (gN l k).3 < (↑n : Int)) ∧ (∀ M : Mem, Int.toNat (gN l k).3 < n) ∧ K [.rnd [0,0,1,0,1,1,1,1,1,1] M, .blk 0, .at [1,1,1,1,1,1,1]] (St.mk [(9, .v (vi64 (IntKind.wrap .i64 ((↑k : Int) - (1 : Int))))), (7, .o 0), (8, .o 1), (5, .o 2)] [.rowc 4 1 n (.upd (.upd (.fn (cB w)) (Int.toNat (gN l k).2) 0 [.v (.bool true)]) (Int.toNat (gN l k).3) 0 [.v (.bool true)]), .rowc 3 1 (m + 1) (.app m (.fn (cI out)) (.lit 1 [.v (vi64 (↑k : Int))])), .rowc 173 1 n (.fn (cS l))])) := by kernel_rfl
theorem com (l : List Nd) (w : List Bool) (out : List Int) (n k m M : Nat) (K : List It → St → Prop) (R : SV → List HO → Prop) : W (xwp Try.prog X K13 [(135, []), (139, []), (142, []), (150, [])] 60 (fxOf Try.f75 [([0,1,0,1,1,1,1,0,0,1,0,0,1,0,1,1,1,1,1,1],3)] [⟨[0,1,0,1,1,1,1,1,1], [9,7,8,5], [(8, 3, 1)]⟩]) [.as 55 (.v (.iface 207 (.agg #[.int .i64 (gN l k).a, .int .i64 (gN l k).b])))] (.at [0,0,1,0,1,1,1,1,1,1] :: .rnd [0,0,1,0,1,1,1,1,1,1] M :: [.blk 0, .at [1,1,1,1,1,1,1]]) ⟨[(9, .v (.int .i64 (k : Int))), (7, .o 0), (8, .o 1), (5, .o 2)], [.rowc 4 1 n (.fn (cB w)), .rowc 3 1 m (.fn (cI out)), .rowc 173 1 n (.fn (cS l))]⟩ K R) = W ((∀ M : Mem, (0 : Int) ≤ (↑k : Int) ∧ (↑k : Int) < (↑n : Int)) ∧ (∀ M : Mem, k < n) ∧ bif !gB w k then K [.rnd [0,0,1,0,1,1,1,1,1,1] M, .blk 0, .at [1,1,1,1,1,1,1]] (St.mk [(9, .v (vi64 (IntKind.wrap .i64 ((↑k : Int) - (1 : Int))))), (7, .o 0), (8, .o 1), (5, .o 2)] [.rowc 4 1 n (.fn (cB w)), .rowc 3 1 m (.fn (cI out)), .rowc 173 1 n (.fn (cS l))]) else (∀ M : Mem, (m + 1) * 8 ≤ 140737488355328 ∧ m + 1 ≤ 140737488355328) ∧ (∀ M : Mem, (0 : Int) ≤ (↑k : Int) ∧ (↑k : Int) < (↑n : Int)) ∧ (∀ M : Mem, k < n) ∧ (∀ M : Mem, stV (gN l k) = Value.iface 207 (Value.agg (Array.mk [vi64 (gN l k).2, vi64 (gN l k).3]))) ∧ (∀ M : Mem, (0 : Int) ≤ (0 : Int) ∧ (0 : Int) < (2 : Int)) ∧ (∀ M : Mem, 0 < 2) ∧ (∀ M : Mem, (0 : Int) ≤ (gN l k).2 ∧ (gN l k).2 < (↑n : Int)) ∧ (∀ M : Mem, Int.toNat (gN l k).2 < n) ∧ (∀ M : Mem, (0 : Int) ≤ (1 : Int) ∧ (1 : Int) < (2 : Int)) ∧ (∀ M : Mem, 1 < 2) ∧ (∀ M : Mem, (0 : Int) ≤ (gN l k).3 ∧ (gN l k).3 < (↑n : Int)) ∧ (∀ M : Mem, Int.toNat (gN l k).3 < n) ∧ K [.rnd [0,0,1,0,1,1,1,1,1,1] M, .blk 0, .at [1,1,1,1,1,1,1]] (St.mk [(9, .v (vi64 (IntKind.wrap .i64 ((↑k : Int) - (1 : Int))))), (7, .o 0), (8, .o 1), (5, .o 2)] [.rowc 4 1 n (.upd (.upd (.fn (cB w)) (Int.toNat (gN l k).2) 0 [.v (.bool true)]) (Int.toNat (gN l k).3) 0 [.v (.bool true)]), .rowc 3 1 (m + 1) (.app m (.fn (cI out)) (.lit 1 [.v (vi64 (↑k : Int))])), .rowc 173 1 n (.fn (cS l))])) := by kernel_rfl
theorem cos (l : List Nd) (w : List Bool) (out : List Int) (n k m M : Nat) (K : List It → St → Prop) (R : SV → List HO → Prop) : W (xwp Try.prog X K13 [(135, []), (139, []), (142, []), (150, [])] 60 (fxOf Try.f75 [([0,1,0,1,1,1,1,0,0,1,0,0,1,0,1,1,1,1,1,1],3)] [⟨[0,1,0,1,1,1,1,1,1], [9,7,8,5], [(8, 3, 1)]⟩]) [.as 55 (.v (.iface 209 (.agg #[.int .i64 (gN l k).a, .int .u64 (limb (gN l k).v 0 : Nat), .int .u64 (limb (gN l k).v 1 : Nat), .int .u64 (limb (gN l k).v 2 : Nat), .int .u64 (limb (gN l k).v 3 : Nat)])))] (.at [0,0,1,0,1,1,1,1,1,1] :: .rnd [0,0,1,0,1,1,1,1,1,1] M :: [.blk 0, .at [1,1,1,1,1,1,1]]) ⟨[(9, .v (.int .i64 (k : Int))), (7, .o 0), (8, .o 1), (5, .o 2)], [.rowc 4 1 n (.fn (cB w)), .rowc 3 1 m (.fn (cI out)), .rowc 173 1 n (.fn (cS l))]⟩ K R) = W ((∀ M : Mem, (0 : Int) ≤ (↑k : Int) ∧ (↑k : Int) < (↑n : Int)) ∧ (∀ M : Mem, k < n) ∧ bif !gB w k then K [.rnd [0,0,1,0,1,1,1,1,1,1] M, .blk 0, .at [1,1,1,1,1,1,1]] (St.mk [(9, .v (vi64 (IntKind.wrap .i64 ((↑k : Int) - (1 : Int))))), (7, .o 0), (8, .o 1), (5, .o 2)] [.rowc 4 1 n (.fn (cB w)), .rowc 3 1 m (.fn (cI out)), .rowc 173 1 n (.fn (cS l))]) else (∀ M : Mem, (m + 1) * 8 ≤ 140737488355328 ∧ m + 1 ≤ 140737488355328) ∧ (∀ M : Mem, (0 : Int) ≤ (↑k : Int) ∧ (↑k : Int) < (↑n : Int)) ∧ (∀ M : Mem, k < n) ∧ (∀ M : Mem, stV (gN l k) = Value.iface 209 (Value.agg (Array.mk [vi64 (gN l k).2, vu64 (↑(limb (gN l k).4 0) : Int), vu64 (↑(limb (gN l k).4 1) : Int), vu64 (↑(limb (gN l k).4 2) : Int), vu64 (↑(limb (gN l k).4 3) : Int)]))) ∧ (∀ M : Mem, (0 : Int) ≤ (0 : Int) ∧ (0 : Int) < (1 : Int)) ∧ (∀ M : Mem, 0 < 1) ∧ (∀ M : Mem, (0 : Int) ≤ (gN l k).2 ∧ (gN l k).2 < (↑n : Int)) ∧ (∀ M : Mem, Int.toNat (gN l k).2 < n) ∧ K [.rnd [0,0,1,0,1,1,1,1,1,1] M, .blk 0, .at [1,1,1,1,1,1,1]] (St.mk [(9, .v (vi64 (IntKind.wrap .i64 ((↑k : Int) - (1 : Int))))), (7, .o 0), (8, .o 1), (5, .o 2)] [.rowc 4 1 n (.upd (.fn (cB w)) (Int.toNat (gN l k).2) 0 [.v (.bool true)]), .rowc 3 1 (m + 1) (.app m (.fn (cI out)) (.lit 1 [.v (vi64 (↑k : Int))])), .rowc 173 1 n (.fn (cS l))])) := by kernel_rfl
theorem coq (l : List Nd) (w : List Bool) (out : List Int) (n k m M : Nat) (K : List It → St → Prop) (R : SV → List HO → Prop) : W (xwp Try.prog X K13 [(135, []), (139, []), (142, []), (150, [])] 60 (fxOf Try.f75 [([0,1,0,1,1,1,1,0,0,1,0,0,1,0,1,1,1,1,1,1],3)] [⟨[0,1,0,1,1,1,1,1,1], [9,7,8,5], [(8, 3, 1)]⟩]) [.as 55 (.v (.iface 176 (.agg #[.int .i64 (gN l k).op, .int .i64 (gN l k).a, .int .i64 (gN l k).b])))] (.at [0,0,1,0,1,1,1,1,1,1] :: .rnd [0,0,1,0,1,1,1,1,1,1] M :: [.blk 0, .at [1,1,1,1,1,1,1]]) ⟨[(9, .v (.int .i64 (k : Int))), (7, .o 0), (8, .o 1), (5, .o 2)], [.rowc 4 1 n (.fn (cB w)), .rowc 3 1 m (.fn (cI out)), .rowc 173 1 n (.fn (cS l))]⟩ K R) = W ((∀ M : Mem, (0 : Int) ≤ (↑k : Int) ∧ (↑k : Int) < (↑n : Int)) ∧ (∀ M : Mem, k < n) ∧ bif !gB w k then K [.rnd [0,0,1,0,1,1,1,1,1,1] M, .blk 0, .at [1,1,1,1,1,1,1]] (St.mk [(9, .v (vi64 (IntKind.wrap .i64 ((↑k : Int) - (1 : Int))))), (7, .o 0), (8, .o 1), (5, .o 2)] [.rowc 4 1 n (.fn (cB w)), .rowc 3 1 m (.fn (cI out)), .rowc 173 1 n (.fn (cS l))]) else (∀ M : Mem, (m + 1) * 8 ≤ 140737488355328 ∧ m + 1 ≤ 140737488355328) ∧ (∀ M : Mem, (0 : Int) ≤ (↑k : Int) ∧ (↑k : Int) < (↑n : Int)) ∧ (∀ M : Mem, k < n) ∧ (∀ M : Mem, stV (gN l k) = Value.iface 176 (Value.agg (Array.mk [vi64 (gN l k).1, vi64 (gN l k).2, vi64 (gN l k).3]))) ∧ K [.rnd [0,0,1,0,1,1,1,1,1,1] M, .blk 0, .at [1,1,1,1,1,1,1]] (St.mk [(9, .v (vi64 (IntKind.wrap .i64 ((↑k : Int) - (1 : Int))))), (7, .o 0), (8, .o 1), (5, .o 2)] [.rowc 4 1 n (.fn (cB w)), .rowc 3 1 (m + 1) (.app m (.fn (cI out)) (.lit 1 [.v (vi64 (↑k : Int))])), .rowc 173 1 n (.fn (cS l))])) := by kernel_rfl
theorem coE (l : List Nd) (w : List Bool) (out : List Int) (n k m M : Nat) (K : List It → St → Prop) (R : SV → List HO → Prop) : W (xwp Try.prog X K13 [(135, []), (139, []), (142, []), (150, [])] 60 (fxOf Try.f75 [([0,1,0,1,1,1,1,0,0,1,0,0,1,0,1,1,1,1,1,1],3)] [⟨[0,1,0,1,1,1,1,1,1], [9,7,8,5], [(8, 3, 1)]⟩]) [] (.at [0,0,1,0,1,1,1,1,1,1] :: .rnd [0,0,1,0,1,1,1,1,1,1] M :: [.blk 0, .at [1,1,1,1,1,1,1]]) ⟨[(9, .v (.int .i64 (-1))), (7, .o 0), (8, .o 1), (5, .o 2)], [.rowc 4 1 n (.fn (cB w)), .rowc 3 1 m (.fn (cI out)), .rowc 173 1 n (.fn (cS l))]⟩ K R) = W (∃ (l : List Int), m = List.length l ∧ IsC m 1 (cI out) (cI l) ∧ List.length l ≤ 4398046511104 ∧ R (.o 0) [.rowc 3 1 (List.length l) (.fn (cI (List.reverseAux l [])))]) := by kernel_rfl
theorem coS (b : Bool) (l : List Nd) (root : Int) (K : List It → St → Prop) (R : SV → List HO → Prop) : W (xwp Try.prog X K13 [(135, []), (139, []), (142, []), (150, [])] 60 (fxOf Try.f75 [([0,1,0,1,1,1,1,0,0,1,0,0,1,0,1,1,1,1,1,1],3)] [⟨[0,1,0,1,1,1,1,1,1], [9,7,8,5], [(8, 3, 1)]⟩]) [] [.at []] ⟨argsS 0 [.x 0 [], .v (.int .i64 root)], [.ext b (.s false 7 l.length (cN l))]⟩ K R) = W (∃ (l_1 : List Nd), List.length l = List.length l_1 ∧ IsC (List.length l) 7 (cN l) (cN l_1) ∧ List.length l_1 ≤ 4398046511104 ∧ bif ordN 0 l_1 then bif decide (root < (0 : Int)) then R (.v (Value.slice none 0 0)) [] else bif decide ((↑(List.length l) : Int) ≤ root) then R (.v (Value.slice none 0 0)) [] else (∀ M : Mem, (0 : Int) ≤ (↑(List.length l) : Int) ∧ (↑(List.length l) : Int) ≤ (↑(List.length l) : Int) ∧ (1 : Int) * (↑(List.length l) : Int) ≤ (281474976710656 : Int) ∧ (↑(List.length l) : Int) ≤ (9223372036854775807 : Int)) ∧ (∀ M : Mem, (0 : Int) ≤ root ∧ root < (↑(List.length l) : Int)) ∧ (∀ M : Mem, Int.toNat root < List.length l) ∧ K [.at [0,1,0,1,1,1,1,1,1], .blk 0, .at [1,1,1,1,1,1,1]] (St.mk [(9, .v (vi64 root)), (7, .o 0), (8, .o 1), (5, .o 2)] [.rowc 4 1 (List.length l) (.upd (Ct.zero [Value.bool false]) (Int.toNat root) 0 [.v (.bool true)]), .rowc 3 1 0 (.lit 1 []), .rowc 173 1 (List.length l) (.fn (cS l_1))]) else R (.v (Value.slice none 0 0)) []) := by kernel_rfl
theorem co_loop (all : List Nd) (ho : ordN 0 all = true) (hb : all.length ≤ 2513169434916) (Q : SV → List HO → Prop) (res : List Int) (hq : Q (.o 0) [.rowc 3 1 res.reverse.length (.fn (cI res.reverse))]) :
    ∀ (k : Nat) (w : List Bool) (out : List Int), k ≤ all.length → w.length = all.length → out.length + k ≤ all.length → colN all k w out = res →
    FOk Try.prog Try.f75 Q (.rnd [0,0,1,0,1,1,1,1,1,1] (k + 1) :: [.blk 0, .at [1, 1, 1, 1, 1, 1, 1]]) ⟨[(9, .v (.int .i64 ((k : Int) - 1))), (7, .o 0), (8, .o 1), (5, .o 2)], [.rowc 4 1 all.length (.fn (cB w)), .rowc 3 1 out.length (.fn (cI out)), .rowc 173 1 all.length (.fn (cS all))]⟩
  | 0, w, out, hk, hw, hl, he => by
    rw [show ((0 : Nat) : Int) - 1 = -1 by omega]
    refine FOk.rnd (run_sound hm 60 ((coE all w out all.length 0 out.length 0 _ _).mpr ⟨?_⟩))
    rw [colN] at he
    subst he
    exact ⟨out, rfl, IsC.refl _ _ _, by omega, by rw [List.length_reverse] at hq; exact hq⟩
  | k + 1, w, out, hk, hw, hl, he => by
    have hlt : k < all.length := by omega
    have hop := ordN_op all 0 ho _ (gN_mem hlt)
    have hu := okN_uses (ordN_get ho k (gN all k) (by rw [gN, List.getD_eq_getElem?_getD, List.getElem?_eq_getElem hlt]; rfl))
    rw [show ((k + 1 : Nat) : Int) - 1 = (k : Int) by omega]
    have no : gB w k = false → FOk Try.prog Try.f75 Q (.rnd [0,0,1,0,1,1,1,1,1,1] (k + 1) :: [.blk 0, .at [1, 1, 1, 1, 1, 1, 1]]) ⟨[(9, .v (.int .i64 (IntKind.wrap .i64 ((k : Int) - 1)))), (7, .o 0), (8, .o 1), (5, .o 2)], [.rowc 4 1 all.length (.fn (cB w)), .rowc 3 1 out.length (.fn (cI out)), .rowc 173 1 all.length (.fn (cS all))]⟩ := fun h => by
      rw [wrap_dec _ (by omega)]
      exact co_loop all ho hb Q res hq k w out (by omega) hw (by omega) (by rw [← he, col_no out h])
    have yes : ∀ c : Ct, gB w k = true → IsC all.length 1 c.at (Ct.fn (cB ((usesN (gN all k)).foldl (fun w j => w.set j.toNat true) w))).at → FOk Try.prog Try.f75 Q (.rnd [0,0,1,0,1,1,1,1,1,1] (k + 1) :: [.blk 0, .at [1, 1, 1, 1, 1, 1, 1]]) ⟨[(9, .v (.int .i64 (IntKind.wrap .i64 ((k : Int) - 1)))), (7, .o 0), (8, .o 1), (5, .o 2)], [.rowc 4 1 all.length c, .rowc 3 1 (out.length + 1) (.app out.length (.fn (cI out)) (.lit 1 [.v (.int .i64 (k : Int))])), .rowc 173 1 all.length (.fn (cS all))]⟩ := fun c h hc => by
      rw [wrap_dec _ (by omega)]
      have next := co_loop all ho hb Q res hq k (markN all k w) (out ++ [(k : Int)]) (by omega) (by rw [markN_len]; exact hw) (by simp; omega) (by rw [← he, col_yes out h])
      rw [List.length_append, List.length_singleton, markN_us hlt h] at next
      exact FOk.cv next ⟨⟨rfl, rfl, rfl, hc⟩, ⟨rfl, rfl, rfl, cI_snoc (k : Int) rfl⟩, HE.refl _, trivial⟩
    by_cases h : (gN all k).op = 1
    · have us : usesN (gN all k) = _ := (usesN_eq _).trans (us_x _ _ (by omega))
      rw [us] at hu yes
      refine FOk.rnd (run_sound hm 60 ((coc all w out all.length k out.length (k + 1) _ _).mpr ⟨?_⟩))
      simp only [cond_not, forall_const]
      refine And.intro (by omega) (And.intro (by omega) (cond_intro (fun hg => ?_) (fun hg => ?_)))
      · repeat' (first | refine And.intro ?_ ?_ | refine cond_intro (fun _ => ?_) (fun _ => ?_))
        all_goals first
          | omega
          | exact stV_c h
          | exact yes _ hg (IsC.refl _ _ _)
      · exact no hg
    by_cases h : (gN all k).op = 5
    · have us : usesN (gN all k) = _ := (usesN_eq _).trans (us_n _ _ (by omega))
      rw [us] at hu yes
      have u1 := hu (gN all k).a (by simp)
      refine FOk.rnd (run_sound hm 60 ((con all w out all.length k out.length (k + 1) _ _).mpr ⟨?_⟩))
      simp only [cond_not, forall_const]
      refine And.intro (by omega) (And.intro (by omega) (cond_intro (fun hg => ?_) (fun hg => ?_)))
      · repeat' (first | refine And.intro ?_ ?_ | refine cond_intro (fun _ => ?_) (fun _ => ?_))
        all_goals first
          | omega
          | exact stV_n h
          | exact yes _ hg (cB_set true hw (by omega))
      · exact no hg
    by_cases h : (gN all k).op = 6
    · have us : usesN (gN all k) = _ := (usesN_eq _).trans (us_a _ _ (by omega))
      rw [us] at hu yes
      have u1 := hu (gN all k).a (by simp)
      have u2 := hu (gN all k).b (by simp)
      refine FOk.rnd (run_sound hm 60 ((coa all w out all.length k out.length (k + 1) _ _).mpr ⟨?_⟩))
      simp only [cond_not, forall_const]
      refine And.intro (by omega) (And.intro (by omega) (cond_intro (fun hg => ?_) (fun hg => ?_)))
      · repeat' (first | refine And.intro ?_ ?_ | refine cond_intro (fun _ => ?_) (fun _ => ?_))
        all_goals first
          | omega
          | exact stV_a h
          | exact yes _ hg (cB_set2 hw (by omega) (by omega))
      · exact no hg
    by_cases h : (gN all k).op = 7
    · have us : usesN (gN all k) = _ := (usesN_eq _).trans (us_a _ _ (by omega))
      rw [us] at hu yes
      have u1 := hu (gN all k).a (by simp)
      have u2 := hu (gN all k).b (by simp)
      refine FOk.rnd (run_sound hm 60 ((com all w out all.length k out.length (k + 1) _ _).mpr ⟨?_⟩))
      simp only [cond_not, forall_const]
      refine And.intro (by omega) (And.intro (by omega) (cond_intro (fun hg => ?_) (fun hg => ?_)))
      · repeat' (first | refine And.intro ?_ ?_ | refine cond_intro (fun _ => ?_) (fun _ => ?_))
        all_goals first
          | omega
          | exact stV_m h
          | exact yes _ hg (cB_set2 hw (by omega) (by omega))
      · exact no hg
    by_cases h : (gN all k).op = 8
    · have us : usesN (gN all k) = _ := (usesN_eq _).trans (us_n _ _ (by omega))
      rw [us] at hu yes
      have u1 := hu (gN all k).a (by simp)
      refine FOk.rnd (run_sound hm 60 ((cos all w out all.length k out.length (k + 1) _ _).mpr ⟨?_⟩))
      simp only [cond_not, forall_const]
      refine And.intro (by omega) (And.intro (by omega) (cond_intro (fun hg => ?_) (fun hg => ?_)))
      · repeat' (first | refine And.intro ?_ ?_ | refine cond_intro (fun _ => ?_) (fun _ => ?_))
        all_goals first
          | omega
          | exact stV_s h
          | exact yes _ hg (cB_set true hw (by omega))
      · exact no hg
    by_cases h : 2 ≤ (gN all k).op ∧ (gN all k).op ≤ 4
    · have us : usesN (gN all k) = _ := (usesN_eq _).trans (us_x _ _ (by omega))
      rw [us] at hu yes
      refine FOk.rnd (run_sound hm 60 ((coq all w out all.length k out.length (k + 1) _ _).mpr ⟨?_⟩))
      simp only [cond_not, forall_const]
      refine And.intro (by omega) (And.intro (by omega) (cond_intro (fun hg => ?_) (fun hg => ?_)))
      · repeat' (first | refine And.intro ?_ ?_ | refine cond_intro (fun _ => ?_) (fun _ => ?_))
        all_goals first
          | omega
          | exact stV_q h
          | exact yes _ hg (IsC.refl _ _ _)
      · exact no hg
    omega
theorem bCo : Try.f75.body.isSome = true := by kernel_rfl
theorem nCo (r : Int) : Nat.ble [SV.x 0 [], .v (.int .i64 r)].length Try.f75.ntmps = true := by kernel_rfl
theorem cone_ok (b : Bool) (all : List Nd) (root : Int) (hb : all.length ≤ 2513169434916) (Q : SV → List HO → Prop) (hq1 : (¬ ordN 0 all = true ∨ root < 0 ∨ (all.length : Int) ≤ root) → Q (.v (.slice none 0 0)) []) (hq : ordN 0 all = true → 0 ≤ root ∧ root < (all.length : Int) → Q (.o 0) [.rowc 3 1 (coneN all root).length (.fn (cI (coneN all root)))]) : FnOk Try.prog 75 [.x 0 [], .v (.int .i64 root)] [.ext b (.s false 7 all.length (cN all))] Q := by
  refine fn_of_ok Try.func75 bCo ?_ ?_
  · exact nCo root
  refine run_sound hm 60 ((coS b all root _ _).mpr ⟨?_⟩)
  simp only [cond_dec, forall_const]
  refine ⟨all, rfl, IsC.refl _ _ _, by omega, cond_intro (fun ho => ?_) (fun ho => ?_)⟩
  · refine ite_intro (fun h => hq1 (.inr (.inl h))) (fun h0 => ite_intro (fun h => hq1 (.inr (.inr h))) (fun h1 => ?_))
    refine And.intro (by omega) (And.intro (by omega) (And.intro (by omega) ?_))
    have hc := hq ho ⟨by omega, by omega⟩
    rw [cone_col ho root (by omega) (by omega)] at hc
    have lp := co_loop all ho hb Q _ hc (root.toNat + 1) ((List.replicate all.length false).set root.toNat true) [] (by omega) (by simp) (by simp; omega) rfl
    rw [show ((root.toNat + 1 : Nat) : Int) - 1 = root by omega] at lp
    refine FOk.loop (root.toNat + 1 + 1) (by kernel_rfl) (FOk.cv lp ⟨⟨rfl, rfl, rfl, ?_⟩, ⟨rfl, rfl, rfl, fun k hk => by simp at hk⟩, HE.refl _, trivial⟩)
    exact IsC.trans (updC_congr (cB_zero all.length) root.toNat 0 [.v (.bool true)]) (cB_set true (by simp) (by omega))
  · exact hq1 (.inl (by rw [ho]; simp))
end Go.Proofs.Ytlmjdcbhpffanaa
/- An empty answer told as a row; the cone as a contract. -/
namespace Go.Sx
open Go.RowKit
theorem FnOk.nil {P : Program} {m : Nat} {f : FuncId} {args : List SV} {h : List HO} {Q : SV → List HO → Prop} (T : TypeId) (sz : Nat) (k : FnOkM P m f args h fun r h' => Q r h' ∨ (r = .v (.slice none 0 0) ∧ h' = [] ∧ Q (.o 0) [.rowc T sz 0 (.lit 1 [])])) : FnOkM P m f args h Q := by
  intro F hF w0 e hm0 S hw
  refine (k F hF w0 e hm0 S hw).mono fun E w' hE => ?_
  obtain ⟨e', r, h', hq, h2, h3, h4⟩ := hE
  rcases hq with hq | ⟨rfl, rfl, hq⟩
  · exact ⟨e', r, h', hq, h2, h3, h4⟩
  · refine ⟨e'.setR 0 (.slice none 0 0), .o 0, _, hq, Nat.zero_lt_one, ?_, by rw [h4]; simp [den, Env.setR]⟩
    exact h3.newRowc hF (w' := w') T sz 0 _ (.slice none 0 0) (fun _ => ⟨[], World.ownsRow_nil w' 0 T sz, fun u hu => (by cases hu), fun k hk => by omega⟩) (fun b hb => by cases hb) ⟨rfl, rfl, rfl, Nat.le_refl _, fun _ _ _ => rfl⟩
end Go.Sx
namespace Go.Pl
theorem cone_bad {l : List Nd} {root : Int} (h : ¬ ordN 0 l = true ∨ root < 0 ∨ (l.length : Int) ≤ root) : coneN l root = [] := by
  rw [coneN, if_neg (fun hh => h.elim (fun h => h hh.1) (fun h => by have := hh.2; omega))]
end Go.Pl
namespace Go.Proofs.Ytlmjdcbhpffanaa
open Go.Sx Go.Pl
set_option linter.unusedVariables false
noncomputable def gCo : List SV → List HO → Option ((SV → List HO → Prop) → Prop)
  | [.x 0 [], .v (.int .i64 root)], [.ext _ (.s false 7 n c)] => some fun Q => ∃ l : List Nd, n = l.length ∧ IsC n 7 c (cN l) ∧ l.length ≤ 2513169434916 ∧ Q (.o 0) [.rowc 3 1 (coneN l root).length (.fn (cI (coneN l root)))]
  | _, _ => none
theorem gCo_ok (args : List SV) (h : List HO) (tr : (SV → List HO → Prop) → Prop) (Q : SV → List HO → Prop) (hc : gCo args h = some tr) (ht : tr Q) : FnOk Try.prog 75 args h Q := by
  unfold gCo at hc
  split at hc
  · rename_i root b n c
    simp only [Option.some.injEq] at hc
    subst hc
    obtain ⟨l, rfl, he, hb, hq⟩ := ht
    refine FnOk.mono (FnOk.eqv (r0 := .o 0) (h0 := [.rowc 3 1 (coneN l root).length (.fn (cI (coneN l root)))]) ?_) (fun r h' hh => by rw [hh.1, hh.2]; exact hq)
    refine FnOk.ac (FnOk.nil 3 1 (cone_ok b l root hb _ (fun hbad => ?_) (fun h1 h2 => .inl ⟨rfl, HEs.refl _⟩))) ⟨⟨rfl, rfl, rfl, rfl, he⟩, trivial⟩
    rw [cone_bad hbad]
    exact .inr ⟨rfl, rfl, rfl, ⟨rfl, rfl, rfl, fun k hk => by simp at hk⟩, trivial⟩
  · cases hc
noncomputable def K15 : Con Try.prog := K13.add 75 gCo gCo_ok
end Go.Proofs.Ytlmjdcbhpffanaa
/- The document's cone. -/
namespace Go.Pl
open Go.Sx
theorem drop_gI {l : List Int} {k : Nat} (h : k < l.length) : l.drop k = gI l k :: l.drop (k + 1) := by
  rw [List.drop_eq_getElem_cons h, gI, List.getD_eq_getElem?_getD, List.getElem?_eq_getElem h]; rfl
theorem gI_mem {l : List Int} {k : Nat} (h : k < l.length) : gI l k ∈ l := by
  rw [gI, List.getD_eq_getElem?_getD, List.getElem?_eq_getElem h]; exact List.getElem_mem h
end Go.Pl
namespace Go.Proofs.Ytlmjdcbhpffanaa
open Go.Sx Go.Pl
set_option linter.unusedVariables false
set_option maxRecDepth 100000
noncomputable def K16 : Con Try.prog := K15
end Go.Proofs.Ytlmjdcbhpffanaa
/- A run of plain numbers: the law's calls whose answers are fixed. -/
namespace Go.Proofs.Ytlmjdcbhpffanaa
open Go.Sx Go.Pl
set_option linter.unusedVariables false
set_option maxRecDepth 100000
end Go.Proofs.Ytlmjdcbhpffanaa
/- Sums and differences of words. -/
namespace Go.Pl
open Go.Sx
theorem add_limbs (a0 a1 a2 a3 b0 b1 b2 b3 c1 c2 c3 c4 s0 s1 s2 s3 : Nat) (h0 : a0 + b0 = s0 + 18446744073709551616 * c1) (h1 : a1 + b1 + c1 = s1 + 18446744073709551616 * c2) (h2 : a2 + b2 + c2 = s2 + 18446744073709551616 * c3)
    (h3 : a3 + b3 + c3 = s3 + 18446744073709551616 * c4) : nv a0 a1 a2 a3 + nv b0 b1 b2 b3 = nv s0 s1 s2 s3 + top * c4 := by
  simp only [nv, top]; omega
theorem sub_limbs (a0 a1 a2 a3 b0 b1 b2 b3 c1 c2 c3 c4 s0 s1 s2 s3 : Nat) (h0 : a0 + 18446744073709551616 * c1 = s0 + b0) (h1 : a1 + 18446744073709551616 * c2 = s1 + b1 + c1) (h2 : a2 + 18446744073709551616 * c3 = s2 + b2 + c2)
    (h3 : a3 + 18446744073709551616 * c4 = s3 + b3 + c3) : nv a0 a1 a2 a3 + top * c4 = nv s0 s1 s2 s3 + nv b0 b1 b2 b3 := by
  simp only [nv, top]; omega
theorem ad_eq (x y c : Nat) : x + y + c = adLo x y c + 18446744073709551616 * adHi x y c ∧ adLo x y c < 18446744073709551616 := by
  rw [adLo_eq, adHi_eq]; omega
theorem sb_eq (x y c : Nat) (hx : x < 18446744073709551616) (hy : y < 18446744073709551616) (hc : c ≤ 1) : x + 18446744073709551616 * sbHi x y c = sbLo x y c + y + c ∧ sbLo x y c < 18446744073709551616 ∧ sbHi x y c ≤ 1 := by
  rw [sbLo_eq, sbHi_eq]; split <;> omega
theorem adHi_le (x y c : Nat) (hx : x < 18446744073709551616) (hy : y < 18446744073709551616) (hc : c ≤ 1) : adHi x y c ≤ 1 := by
  rw [adHi_eq]; omega
theorem nv_self (a : Nat) (ha : a < top) : nv (limb a 0) (limb a 1) (limb a 2) (limb a 3) = a := by rw [nv_limb, Nat.mod_eq_of_lt ha]
theorem top_pos : 0 < top := by simp only [top]; omega
theorem limb_top (n c : Nat) (i : Nat) (hi : i < 4) : limb (n + top * c) i = limb n i := by
  have h1 := limb_mod (n + top * c)
  rw [Nat.add_mul_mod_self_left] at h1
  have h2 := limb_mod n
  match i, hi with
  | 0, _ => rw [← h1.1, h2.1]
  | 1, _ => rw [← h1.2.1, h2.2.1]
  | 2, _ => rw [← h1.2.2.1, h2.2.2.1]
  | 3, _ => rw [← h1.2.2.2, h2.2.2.2]
theorem add_chain (a b : Nat) (ha : a < top) (hb : b < top) : ∃ c1 c2 c3 c4 : Nat, adHi (limb a 0) (limb b 0) 0 = c1 ∧ adHi (limb a 1) (limb b 1) c1 = c2 ∧ adHi (limb a 2) (limb b 2) c2 = c3 ∧ adHi (limb a 3) (limb b 3) c3 = c4 ∧ c1 ≤ 1 ∧ c2 ≤ 1 ∧ c3 ≤ 1 ∧
    adLo (limb a 0) (limb b 0) 0 = limb (a + b) 0 ∧ adLo (limb a 1) (limb b 1) c1 = limb (a + b) 1 ∧ adLo (limb a 2) (limb b 2) c2 = limb (a + b) 2 ∧ adLo (limb a 3) (limb b 3) c3 = limb (a + b) 3 ∧ (!((c4 : Int) == 0)) = decide (top ≤ a + b) := by
  have q0 := ad_eq (limb a 0) (limb b 0) 0
  have u0 := adHi_le (limb a 0) (limb b 0) 0 (limb_lt a 0) (limb_lt b 0) (by omega)
  generalize hc1 : adHi (limb a 0) (limb b 0) 0 = c1 at *
  generalize hs0 : adLo (limb a 0) (limb b 0) 0 = s0 at *
  have q1 := ad_eq (limb a 1) (limb b 1) c1
  have u1 := adHi_le (limb a 1) (limb b 1) c1 (limb_lt a 1) (limb_lt b 1) (by omega)
  generalize hc2 : adHi (limb a 1) (limb b 1) c1 = c2 at *
  generalize hs1 : adLo (limb a 1) (limb b 1) c1 = s1 at *
  have q2 := ad_eq (limb a 2) (limb b 2) c2
  have u2 := adHi_le (limb a 2) (limb b 2) c2 (limb_lt a 2) (limb_lt b 2) (by omega)
  generalize hc3 : adHi (limb a 2) (limb b 2) c2 = c3 at *
  generalize hs2 : adLo (limb a 2) (limb b 2) c2 = s2 at *
  have q3 := ad_eq (limb a 3) (limb b 3) c3
  generalize hc4 : adHi (limb a 3) (limb b 3) c3 = c4 at *
  generalize hs3 : adLo (limb a 3) (limb b 3) c3 = s3 at *
  have this := add_limbs (limb a 0) (limb a 1) (limb a 2) (limb a 3) (limb b 0) (limb b 1) (limb b 2) (limb b 3) c1 c2 c3 c4 s0 s1 s2 s3 q0.1 q1.1 q2.1 q3.1
  rw [nv_self a ha, nv_self b hb] at this
  have hlt := nv_lt q0.2 q1.2 q2.2 q3.2
  obtain ⟨l0, l1, l2, l3⟩ := limb_nv q0.2 q1.2 q2.2 q3.2
  rw [this, limb_top _ _ 0 (by omega), limb_top _ _ 1 (by omega), limb_top _ _ 2 (by omega), limb_top _ _ 3 (by omega), l0, l1, l2, l3]
  refine ⟨c1, c2, c3, c4, by first | rfl | assumption, by first | rfl | assumption, by first | rfl | assumption, by first | rfl | assumption, u0, u1, u2, by first | rfl | assumption, by first | rfl | assumption, by first | rfl | assumption, by first | rfl | assumption, ?_⟩
  have ht : (top ≤ nv s0 s1 s2 s3 + top * c4) ↔ ¬ ((c4 : Int) = 0) := by
    have := top_pos
    constructor
    · intro h h0
      have h0 : c4 = 0 := by omega
      subst h0
      omega
    · intro h
      have h1 : 1 ≤ c4 := by omega
      have := Nat.mul_le_mul_left top h1
      omega
  rw [Bool.eq_iff_iff, decide_eq_true_iff, ht]
  simp
theorem sub_chain (a b : Nat) (ha : a < top) (hb : b < top) : ∃ c1 c2 c3 c4 : Nat, sbHi (limb a 0) (limb b 0) 0 = c1 ∧ sbHi (limb a 1) (limb b 1) c1 = c2 ∧ sbHi (limb a 2) (limb b 2) c2 = c3 ∧ sbHi (limb a 3) (limb b 3) c3 = c4 ∧ c1 ≤ 1 ∧ c2 ≤ 1 ∧ c3 ≤ 1 ∧
    sbLo (limb a 0) (limb b 0) 0 = limb (a + top - b) 0 ∧ sbLo (limb a 1) (limb b 1) c1 = limb (a + top - b) 1 ∧ sbLo (limb a 2) (limb b 2) c2 = limb (a + top - b) 2 ∧ sbLo (limb a 3) (limb b 3) c3 = limb (a + top - b) 3 ∧ (!((c4 : Int) == 0)) = decide (a < b) := by
  have q0 := sb_eq (limb a 0) (limb b 0) 0 (limb_lt a 0) (limb_lt b 0) (by omega)
  generalize hc1 : sbHi (limb a 0) (limb b 0) 0 = c1 at *
  generalize hs0 : sbLo (limb a 0) (limb b 0) 0 = s0 at *
  have q1 := sb_eq (limb a 1) (limb b 1) c1 (limb_lt a 1) (limb_lt b 1) q0.2.2
  generalize hc2 : sbHi (limb a 1) (limb b 1) c1 = c2 at *
  generalize hs1 : sbLo (limb a 1) (limb b 1) c1 = s1 at *
  have q2 := sb_eq (limb a 2) (limb b 2) c2 (limb_lt a 2) (limb_lt b 2) q1.2.2
  generalize hc3 : sbHi (limb a 2) (limb b 2) c2 = c3 at *
  generalize hs2 : sbLo (limb a 2) (limb b 2) c2 = s2 at *
  have q3 := sb_eq (limb a 3) (limb b 3) c3 (limb_lt a 3) (limb_lt b 3) q2.2.2
  generalize hc4 : sbHi (limb a 3) (limb b 3) c3 = c4 at *
  generalize hs3 : sbLo (limb a 3) (limb b 3) c3 = s3 at *
  have this := sub_limbs (limb a 0) (limb a 1) (limb a 2) (limb a 3) (limb b 0) (limb b 1) (limb b 2) (limb b 3) c1 c2 c3 c4 s0 s1 s2 s3 q0.1 q1.1 q2.1 q3.1
  rw [nv_self a ha, nv_self b hb] at this
  have hlt := nv_lt q0.2.1 q1.2.1 q2.2.1 q3.2.1
  obtain ⟨l0, l1, l2, l3⟩ := limb_nv q0.2.1 q1.2.1 q2.2.1 q3.2.1
  have hc4 := q3.2.2
  have key : (a + top - b = nv s0 s1 s2 s3 ∨ a + top - b = nv s0 s1 s2 s3 + top * 1) ∧ (!((c4 : Int) == 0)) = decide (a < b) := by
    have hc : c4 = 0 ∨ c4 = 1 := by omega
    rcases hc with rfl | rfl
    · rw [Nat.mul_zero] at this
      refine ⟨.inr (by omega), ?_⟩
      rw [decide_eq_false (by omega)]; rfl
    · rw [Nat.mul_one] at this
      refine ⟨.inl (by omega), ?_⟩
      rw [decide_eq_true (by omega)]; rfl
  refine ⟨c1, c2, c3, c4, by first | rfl | assumption, by first | rfl | assumption, by first | rfl | assumption, by first | rfl | assumption, q0.2.2, q1.2.2, q2.2.2, Eq.trans (by first | rfl | assumption) (?_ : s0 = _), Eq.trans (by first | rfl | assumption) (?_ : s1 = _), Eq.trans (by first | rfl | assumption) (?_ : s2 = _), Eq.trans (by first | rfl | assumption) (?_ : s3 = _), key.2⟩ <;> rcases key.1 with e | e <;> rw [e]
  all_goals first
    | exact l0.symm
    | exact l1.symm
    | exact l2.symm
    | exact l3.symm
    | (rw [limb_top _ _ 0 (by omega)]; exact l0.symm)
    | (rw [limb_top _ _ 1 (by omega)]; exact l1.symm)
    | (rw [limb_top _ _ 2 (by omega)]; exact l2.symm)
    | (rw [limb_top _ _ 3 (by omega)]; exact l3.symm)
noncomputable abbrev eS (a : Nat) : SV := .agg [.v (.int .u64 (limb a 0 : Nat)), .v (.int .u64 (limb a 1 : Nat)), .v (.int .u64 (limb a 2 : Nat)), .v (.int .u64 (limb a 3 : Nat))]
noncomputable abbrev eI (a : Nat) : List Int := [(limb a 0 : Int), (limb a 1 : Int), (limb a 2 : Int), (limb a 3 : Int)]
structure c1C (ds : List Int) (k : Nat → Prop) : Prop where
  h : ∃ a : Nat, ds = eI a ∧ a < top ∧ k a
structure c2C (ds es : List Int) (k : Nat → Nat → Prop) : Prop where
  h : ∃ a b : Nat, ds = eI a ∧ es = eI b ∧ a < top ∧ b < top ∧ k a b
theorem c1C_mk {k : Nat → Prop} (a : Nat) (ha : a < top) (h : k a) : c1C (eI a) k := ⟨⟨a, rfl, ha, h⟩⟩
theorem c2C_mk {k : Nat → Nat → Prop} (a b : Nat) (ha : a < top) (hb : b < top) (h : k a b) : c2C (eI a) (eI b) k := ⟨⟨a, b, rfl, rfl, ha, hb, h⟩⟩
noncomputable def wsub (a b : Nat) : Nat := a + top - b
noncomputable def wadd (a b : Nat) : Nat := a + b
end Go.Pl
namespace Go.Proofs.Ytlmjdcbhpffanaa
open Go.Sx Go.Pl
set_option linter.unusedVariables false
set_option maxRecDepth 100000
theorem waS (a b : Nat) (K : List It → St → Prop) (R : SV → List HO → Prop) : W (xwp Try.prog X K16 [] 60 (fxOf Try.f73 [([0,1,0,1,1,1], 5)] []) [] [.at []] ⟨argsS 0 [.agg [.v (.int .u64 (limb a 0 : Nat)), .v (.int .u64 (limb a 1 : Nat)), .v (.int .u64 (limb a 2 : Nat)), .v (.int .u64 (limb a 3 : Nat))], .agg [.v (.int .u64 (limb b 0 : Nat)), .v (.int .u64 (limb b 1 : Nat)), .v (.int .u64 (limb b 2 : Nat)), .v (.int .u64 (limb b 3 : Nat))]], []⟩ K R) = W ((∀ M : Mem, (0 : Int) ≤ (0 : Int) ∧ (0 : Int) < (4 : Int)) ∧ (∀ M : Mem, (0 : Int) ≤ (0 : Int) ∧ (0 : Int) < (4 : Int)) ∧ (∀ M : Mem, (0 : Int) ≤ (↑(limb a 0) : Int) ∧ (0 : Int) ≤ (↑(limb b 0) : Int) ∧ (0 : Int) ≤ (0 : Int) ∧ 0 ≤ 1) ∧ (∀ M : Mem, (0 : Int) ≤ (0 : Int) ∧ (0 : Int) < (4 : Int)) ∧ (∀ M : Mem, 0 + 1 ≤ 4) ∧ (∀ M : Mem, (0 : Int) ≤ (1 : Int) ∧ (1 : Int) < (4 : Int)) ∧ (∀ M : Mem, (0 : Int) ≤ (1 : Int) ∧ (1 : Int) < (4 : Int)) ∧ (∀ M : Mem, (0 : Int) ≤ (↑(limb a 1) : Int) ∧ (0 : Int) ≤ (↑(limb b 1) : Int) ∧ (0 : Int) ≤ (↑(adHi (limb a 0) (limb b 0) 0) : Int) ∧ adHi (limb a 0) (limb b 0) 0 ≤ 1) ∧ (∀ M : Mem, (0 : Int) ≤ (1 : Int) ∧ (1 : Int) < (4 : Int)) ∧ (∀ M : Mem, 1 + 1 ≤ 4) ∧ (∀ M : Mem, (0 : Int) ≤ (2 : Int) ∧ (2 : Int) < (4 : Int)) ∧ (∀ M : Mem, (0 : Int) ≤ (2 : Int) ∧ (2 : Int) < (4 : Int)) ∧ (∀ M : Mem, (0 : Int) ≤ (↑(limb a 2) : Int) ∧ (0 : Int) ≤ (↑(limb b 2) : Int) ∧ (0 : Int) ≤ (↑(adHi (limb a 1) (limb b 1) (adHi (limb a 0) (limb b 0) 0)) : Int) ∧ adHi (limb a 1) (limb b 1) (adHi (limb a 0) (limb b 0) 0) ≤ 1) ∧ (∀ M : Mem, (0 : Int) ≤ (2 : Int) ∧ (2 : Int) < (4 : Int)) ∧ (∀ M : Mem, 2 + 1 ≤ 4) ∧ (∀ M : Mem, (0 : Int) ≤ (3 : Int) ∧ (3 : Int) < (4 : Int)) ∧ (∀ M : Mem, (0 : Int) ≤ (3 : Int) ∧ (3 : Int) < (4 : Int)) ∧ (∀ M : Mem, (0 : Int) ≤ (↑(limb a 3) : Int) ∧ (0 : Int) ≤ (↑(limb b 3) : Int) ∧ (0 : Int) ≤ (↑(adHi (limb a 2) (limb b 2) (adHi (limb a 1) (limb b 1) (adHi (limb a 0) (limb b 0) 0))) : Int) ∧ adHi (limb a 2) (limb b 2) (adHi (limb a 1) (limb b 1) (adHi (limb a 0) (limb b 0) 0)) ≤ 1) ∧ (∀ M : Mem, (0 : Int) ≤ (3 : Int) ∧ (3 : Int) < (4 : Int)) ∧ (∀ M : Mem, 3 + 1 ≤ 4) ∧ (∀ M : Mem, 0 + 4 ≤ 4) ∧ R (.tup [.agg [.v (vu64 (↑(adLo (limb a 0) (limb b 0) 0) : Int)), .v (vu64 (↑(adLo (limb a 1) (limb b 1) (adHi (limb a 0) (limb b 0) 0)) : Int)), .v (vu64 (↑(adLo (limb a 2) (limb b 2) (adHi (limb a 1) (limb b 1) (adHi (limb a 0) (limb b 0) 0))) : Int)), .v (vu64 (↑(adLo (limb a 3) (limb b 3) (adHi (limb a 2) (limb b 2) (adHi (limb a 1) (limb b 1) (adHi (limb a 0) (limb b 0) 0)))) : Int))], .v (.bool !(↑(adHi (limb a 3) (limb b 3) (adHi (limb a 2) (limb b 2) (adHi (limb a 1) (limb b 1) (adHi (limb a 0) (limb b 0) 0)))) : Int) == (0 : Int))]) []) := by kernel_rfl
theorem wsS (a b : Nat) (K : List It → St → Prop) (R : SV → List HO → Prop) : W (xwp Try.prog X K16 [] 60 (fxOf Try.f98 [([0,1,0,1,1,1], 5)] []) [] [.at []] ⟨argsS 0 [.agg [.v (.int .u64 (limb a 0 : Nat)), .v (.int .u64 (limb a 1 : Nat)), .v (.int .u64 (limb a 2 : Nat)), .v (.int .u64 (limb a 3 : Nat))], .agg [.v (.int .u64 (limb b 0 : Nat)), .v (.int .u64 (limb b 1 : Nat)), .v (.int .u64 (limb b 2 : Nat)), .v (.int .u64 (limb b 3 : Nat))]], []⟩ K R) = W ((∀ M : Mem, (0 : Int) ≤ (0 : Int) ∧ (0 : Int) < (4 : Int)) ∧ (∀ M : Mem, (0 : Int) ≤ (0 : Int) ∧ (0 : Int) < (4 : Int)) ∧ (∀ M : Mem, (0 : Int) ≤ (↑(limb a 0) : Int) ∧ (0 : Int) ≤ (↑(limb b 0) : Int) ∧ (0 : Int) ≤ (0 : Int) ∧ 0 ≤ 1) ∧ (∀ M : Mem, (0 : Int) ≤ (0 : Int) ∧ (0 : Int) < (4 : Int)) ∧ (∀ M : Mem, 0 + 1 ≤ 4) ∧ (∀ M : Mem, (0 : Int) ≤ (1 : Int) ∧ (1 : Int) < (4 : Int)) ∧ (∀ M : Mem, (0 : Int) ≤ (1 : Int) ∧ (1 : Int) < (4 : Int)) ∧ (∀ M : Mem, (0 : Int) ≤ (↑(limb a 1) : Int) ∧ (0 : Int) ≤ (↑(limb b 1) : Int) ∧ (0 : Int) ≤ (↑(sbHi (limb a 0) (limb b 0) 0) : Int) ∧ sbHi (limb a 0) (limb b 0) 0 ≤ 1) ∧ (∀ M : Mem, (0 : Int) ≤ (1 : Int) ∧ (1 : Int) < (4 : Int)) ∧ (∀ M : Mem, 1 + 1 ≤ 4) ∧ (∀ M : Mem, (0 : Int) ≤ (2 : Int) ∧ (2 : Int) < (4 : Int)) ∧ (∀ M : Mem, (0 : Int) ≤ (2 : Int) ∧ (2 : Int) < (4 : Int)) ∧ (∀ M : Mem, (0 : Int) ≤ (↑(limb a 2) : Int) ∧ (0 : Int) ≤ (↑(limb b 2) : Int) ∧ (0 : Int) ≤ (↑(sbHi (limb a 1) (limb b 1) (sbHi (limb a 0) (limb b 0) 0)) : Int) ∧ sbHi (limb a 1) (limb b 1) (sbHi (limb a 0) (limb b 0) 0) ≤ 1) ∧ (∀ M : Mem, (0 : Int) ≤ (2 : Int) ∧ (2 : Int) < (4 : Int)) ∧ (∀ M : Mem, 2 + 1 ≤ 4) ∧ (∀ M : Mem, (0 : Int) ≤ (3 : Int) ∧ (3 : Int) < (4 : Int)) ∧ (∀ M : Mem, (0 : Int) ≤ (3 : Int) ∧ (3 : Int) < (4 : Int)) ∧ (∀ M : Mem, (0 : Int) ≤ (↑(limb a 3) : Int) ∧ (0 : Int) ≤ (↑(limb b 3) : Int) ∧ (0 : Int) ≤ (↑(sbHi (limb a 2) (limb b 2) (sbHi (limb a 1) (limb b 1) (sbHi (limb a 0) (limb b 0) 0))) : Int) ∧ sbHi (limb a 2) (limb b 2) (sbHi (limb a 1) (limb b 1) (sbHi (limb a 0) (limb b 0) 0)) ≤ 1) ∧ (∀ M : Mem, (0 : Int) ≤ (3 : Int) ∧ (3 : Int) < (4 : Int)) ∧ (∀ M : Mem, 3 + 1 ≤ 4) ∧ (∀ M : Mem, 0 + 4 ≤ 4) ∧ R (.tup [.agg [.v (vu64 (↑(sbLo (limb a 0) (limb b 0) 0) : Int)), .v (vu64 (↑(sbLo (limb a 1) (limb b 1) (sbHi (limb a 0) (limb b 0) 0)) : Int)), .v (vu64 (↑(sbLo (limb a 2) (limb b 2) (sbHi (limb a 1) (limb b 1) (sbHi (limb a 0) (limb b 0) 0))) : Int)), .v (vu64 (↑(sbLo (limb a 3) (limb b 3) (sbHi (limb a 2) (limb b 2) (sbHi (limb a 1) (limb b 1) (sbHi (limb a 0) (limb b 0) 0)))) : Int))], .v (.bool !(↑(sbHi (limb a 3) (limb b 3) (sbHi (limb a 2) (limb b 2) (sbHi (limb a 1) (limb b 1) (sbHi (limb a 0) (limb b 0) 0)))) : Int) == (0 : Int))]) []) := by kernel_rfl
theorem bWa : Try.f73.body.isSome = true := by kernel_rfl
theorem nWa (a b : Nat) : Nat.ble [SV.agg [.v (.int .u64 (limb a 0 : Nat)), .v (.int .u64 (limb a 1 : Nat)), .v (.int .u64 (limb a 2 : Nat)), .v (.int .u64 (limb a 3 : Nat))], .agg [.v (.int .u64 (limb b 0 : Nat)), .v (.int .u64 (limb b 1 : Nat)), .v (.int .u64 (limb b 2 : Nat)), .v (.int .u64 (limb b 3 : Nat))]].length Try.f73.ntmps = true := by kernel_rfl
theorem Wa_ok (a b : Nat) (ha : a < top) (hb : b < top) (Q : SV → List HO → Prop) (hq : Q (.tup [.agg [.v (.int .u64 (limb (a + b) 0 : Nat)), .v (.int .u64 (limb (a + b) 1 : Nat)), .v (.int .u64 (limb (a + b) 2 : Nat)), .v (.int .u64 (limb (a + b) 3 : Nat))], .v (.bool (decide (top ≤ a + b)))]) []) : FnOk Try.prog 73 [.agg [.v (.int .u64 (limb a 0 : Nat)), .v (.int .u64 (limb a 1 : Nat)), .v (.int .u64 (limb a 2 : Nat)), .v (.int .u64 (limb a 3 : Nat))], .agg [.v (.int .u64 (limb b 0 : Nat)), .v (.int .u64 (limb b 1 : Nat)), .v (.int .u64 (limb b 2 : Nat)), .v (.int .u64 (limb b 3 : Nat))]] [] Q := by
  refine fn_of_ok Try.func73 bWa ?_ ?_
  · exact nWa a b
  refine run_sound hm 60 ((waS a b _ _).mpr ⟨?_⟩)
  obtain ⟨c1, c2, c3, c4, h1, h2, h3, h4, u1, u2, u3, s0, s1, s2, s3, hf⟩ := add_chain a b ha hb
  simp only [h1, h2, h3, h4, s0, s1, s2, s3, forall_const]
  rw [hf]
  repeat' (first | refine And.intro ?_ ?_)
  all_goals first
    | omega
    | exact hq
noncomputable def gWa : List SV → List HO → Option ((SV → List HO → Prop) → Prop)
  | [.agg [.v (.int .u64 a0), .v (.int .u64 a1), .v (.int .u64 a2), .v (.int .u64 a3)], .agg [.v (.int .u64 b0), .v (.int .u64 b1), .v (.int .u64 b2), .v (.int .u64 b3)]], [] => some fun Q => c2C [a0, a1, a2, a3] [b0, b1, b2, b3] fun a b => Q (.tup [eS (wadd a b), .v (.bool (decide (top ≤ a + b)))]) []
  | _, _ => none
theorem gWa_ok (args : List SV) (h : List HO) (tr : (SV → List HO → Prop) → Prop) (Q : SV → List HO → Prop) (hc : gWa args h = some tr) (ht : tr Q) : FnOk Try.prog 73 args h Q := by
  unfold gWa at hc
  split at hc
  · rename_i a0 a1 a2 a3 b0 b1 b2 b3
    simp only [Option.some.injEq] at hc
    subst hc
    obtain ⟨a, b, e1, e2, ha, hb, hq⟩ := ht.h
    simp only [List.cons.injEq, and_true] at e1 e2
    obtain ⟨rfl, rfl, rfl, rfl⟩ := e1
    obtain ⟨rfl, rfl, rfl, rfl⟩ := e2
    exact Wa_ok a b ha hb Q hq
  · cases hc
theorem bWs : Try.f98.body.isSome = true := by kernel_rfl
theorem nWs (a b : Nat) : Nat.ble [SV.agg [.v (.int .u64 (limb a 0 : Nat)), .v (.int .u64 (limb a 1 : Nat)), .v (.int .u64 (limb a 2 : Nat)), .v (.int .u64 (limb a 3 : Nat))], .agg [.v (.int .u64 (limb b 0 : Nat)), .v (.int .u64 (limb b 1 : Nat)), .v (.int .u64 (limb b 2 : Nat)), .v (.int .u64 (limb b 3 : Nat))]].length Try.f98.ntmps = true := by kernel_rfl
theorem Ws_ok (a b : Nat) (ha : a < top) (hb : b < top) (Q : SV → List HO → Prop) (hq : Q (.tup [.agg [.v (.int .u64 (limb (a + top - b) 0 : Nat)), .v (.int .u64 (limb (a + top - b) 1 : Nat)), .v (.int .u64 (limb (a + top - b) 2 : Nat)), .v (.int .u64 (limb (a + top - b) 3 : Nat))], .v (.bool (decide (a < b)))]) []) : FnOk Try.prog 98 [.agg [.v (.int .u64 (limb a 0 : Nat)), .v (.int .u64 (limb a 1 : Nat)), .v (.int .u64 (limb a 2 : Nat)), .v (.int .u64 (limb a 3 : Nat))], .agg [.v (.int .u64 (limb b 0 : Nat)), .v (.int .u64 (limb b 1 : Nat)), .v (.int .u64 (limb b 2 : Nat)), .v (.int .u64 (limb b 3 : Nat))]] [] Q := by
  refine fn_of_ok Try.func98 bWs ?_ ?_
  · exact nWs a b
  refine run_sound hm 60 ((wsS a b _ _).mpr ⟨?_⟩)
  obtain ⟨c1, c2, c3, c4, h1, h2, h3, h4, u1, u2, u3, s0, s1, s2, s3, hf⟩ := sub_chain a b ha hb
  simp only [h1, h2, h3, h4, s0, s1, s2, s3, forall_const]
  rw [hf]
  repeat' (first | refine And.intro ?_ ?_)
  all_goals first
    | omega
    | exact hq
noncomputable def gWs : List SV → List HO → Option ((SV → List HO → Prop) → Prop)
  | [.agg [.v (.int .u64 a0), .v (.int .u64 a1), .v (.int .u64 a2), .v (.int .u64 a3)], .agg [.v (.int .u64 b0), .v (.int .u64 b1), .v (.int .u64 b2), .v (.int .u64 b3)]], [] => some fun Q => c2C [a0, a1, a2, a3] [b0, b1, b2, b3] fun a b => Q (.tup [eS (wsub a b), .v (.bool (decide (a < b)))]) []
  | _, _ => none
theorem gWs_ok (args : List SV) (h : List HO) (tr : (SV → List HO → Prop) → Prop) (Q : SV → List HO → Prop) (hc : gWs args h = some tr) (ht : tr Q) : FnOk Try.prog 98 args h Q := by
  unfold gWs at hc
  split at hc
  · rename_i a0 a1 a2 a3 b0 b1 b2 b3
    simp only [Option.some.injEq] at hc
    subst hc
    obtain ⟨a, b, e1, e2, ha, hb, hq⟩ := ht.h
    simp only [List.cons.injEq, and_true] at e1 e2
    obtain ⟨rfl, rfl, rfl, rfl⟩ := e1
    obtain ⟨rfl, rfl, rfl, rfl⟩ := e2
    exact Ws_ok a b ha hb Q hq
  · cases hc
noncomputable def K18 : Con Try.prog := (K16.add 73 gWa gWa_ok).add 98 gWs gWs_ok
end Go.Proofs.Ytlmjdcbhpffanaa
/- A number of two words by a little modulus: bits.Div64. -/
namespace Go.Pl
open Go.Sx
theorem wrap_u64 (z : Int) : IntKind.wrap .u64 z = z % 18446744073709551616 := by
  simp [IntKind.wrap, IntKind.bits, IntKind.signed]
theorem tmodNat (n k : Nat) : Int.tmod (n : Int) (k : Int) = ((n % k : Nat) : Int) := by
  rw [Int.tmod_eq_emod_of_nonneg (by omega)]; rfl
theorem tdivNat (n k : Nat) : Int.tdiv (n : Int) (k : Int) = ((n / k : Nat) : Int) := by
  rw [Int.tdiv_eq_ediv_of_nonneg (by omega)]; rfl
theorem fdivN (a : Nat) : Int.fdiv (a : Int) 4294967296 = ((a / 4294967296 : Nat) : Int) := by
  rw [Int.fdiv_eq_ediv_of_nonneg _ (by omega)]; omega
theorem wrapN (a : Nat) (ha : a < 18446744073709551616) : IntKind.wrap .u64 (a : Int) = (a : Int) := by rw [wrap_u64]; omega
noncomputable def dvQ (y hi lo : Nat) : Nat := hide ((hi * 18446744073709551616 + lo) / y)
noncomputable def dvR (y hi lo : Nat) : Nat := hide ((hi * 18446744073709551616 + lo) % y)
theorem or_at (k a b : Nat) (hb : b < 2 ^ k) : a * 2 ^ k ||| b = a * 2 ^ k + b := by
  rw [Nat.mul_comm, ← Nat.two_pow_add_eq_or_of_lt hb]
theorem and32 (a : Nat) (h : a % 4294967296 = 0) : a &&& 4294967295 = 0 := by
  have e : a &&& 4294967295 = a % 4294967296 := Nat.and_two_pow_sub_one_eq_mod a 32
  rw [e, h]
theorem int_eq {k : IntKind} {x y : Int} (h : x = y) : Value.int k x = Value.int k y := by rw [h]
theorem toNat_mod (n : Nat) (h : n < 18446744073709551616) : Int.toNat ((n : Int) % (18446744073709551616 : Int)) = n := by omega
theorem fdiv_nat (n q : Nat) (hq : 0 < q) : Int.fdiv (n : Int) (q : Int) = ((n / q : Nat) : Int) := by
  rw [Int.fdiv_eq_ediv_of_nonneg _ (by omega)]
  exact (Int.natCast_ediv n q).symm
theorem div_core (p y X N W : Nat) (hp : 0 < p) (hy : 0 < y) (h : p * N = p * (y * X) + W) (hW : W < p * y) : N / y = X ∧ W / p = N % y := by
  have h1 : y * X ≤ N := Nat.le_of_mul_le_mul_left (by omega : p * (y * X) ≤ p * N) hp
  obtain ⟨d, rfl⟩ := Nat.exists_eq_add_of_le h1
  rw [Nat.mul_add] at h
  have h2 : W = p * d := by omega
  subst h2
  have h3 : d < y := Nat.lt_of_mul_lt_mul_left hW
  rw [Nat.mul_div_cancel_left _ hp, Nat.mul_add_div hy, Nat.div_eq_of_lt h3, Nat.mul_add_mod, Nat.mod_eq_of_lt h3]
  exact ⟨rfl, rfl⟩
noncomputable def dAp (hi _lo : Nat) : Nat := hide (hi * 1099511627776)
noncomputable def dUp (hi lo : Nat) : Nat := hide (hi * 1099511627776 + lo / 16777216)
noncomputable def dVp (_hi lo : Nat) : Nat := hide (lo % 16777216 * 1099511627776)
noncomputable def dCp (_hi lo : Nat) : Nat := hide (lo % 16777216 * 256)
noncomputable def dQp (hi lo : Nat) : Nat := hide (dUp hi lo / 4227465472)
noncomputable def dEp (hi lo : Nat) : Nat := hide (dQp hi lo * 4227465472)
noncomputable def dRp (hi lo : Nat) : Nat := hide (dUp hi lo % 4227465472)
noncomputable def dNp (hi lo : Nat) : Nat := hide (dRp hi lo * 4294967296 + dCp hi lo)
noncomputable def dSp (hi lo : Nat) : Nat := hide (dNp hi lo / 4227465472)
noncomputable def dFp (hi lo : Nat) : Nat := hide (dSp hi lo * 4227465472)
noncomputable def dTp (hi lo : Nat) : Nat := hide (dNp hi lo % 4227465472)
theorem div_factsp (hi lo : Nat) : ∃ l1 L : Nat, lo = l1 * 16777216 + L ∧ L < 16777216 ∧ lo / 16777216 = l1 ∧ dAp hi lo = hi * 1099511627776 ∧ dUp hi lo = hi * 1099511627776 + l1 ∧ dVp hi lo = L * 1099511627776 ∧ dCp hi lo = L * 256 ∧
    dUp hi lo = 4227465472 * dQp hi lo + dRp hi lo ∧ dRp hi lo < 4227465472 ∧ dEp hi lo = dQp hi lo * 4227465472 ∧ dNp hi lo = dRp hi lo * 4294967296 + dCp hi lo ∧ dNp hi lo = 4227465472 * dSp hi lo + dTp hi lo ∧ dTp hi lo < 4227465472 ∧ dFp hi lo = dSp hi lo * 4227465472 ∧
    dQp hi lo = dUp hi lo / 4227465472 ∧ dSp hi lo = dNp hi lo / 4227465472 :=
  ⟨lo / 16777216, lo % 16777216, by omega, Nat.mod_lt _ (by omega), rfl, hide_eq _, hide_eq _, hide_eq _, hide_eq _, by rw [dQp, dRp, hide_eq, hide_eq]; exact (Nat.div_add_mod _ _).symm, by rw [dRp, hide_eq]; exact Nat.mod_lt _ (by omega),
    hide_eq _, hide_eq _, by rw [dSp, dTp, hide_eq, hide_eq]; exact (Nat.div_add_mod _ _).symm, by rw [dTp, hide_eq]; exact Nat.mod_lt _ (by omega), hide_eq _, hide_eq _, hide_eq _⟩
theorem div_keyp (hi l1 L q1 R q0 R0 : Nat) (hU : hi * 1099511627776 + l1 = 4227465472 * q1 + R) (hUN : R * 4294967296 + L * 256 = 4227465472 * q0 + R0) :
    1099511627776 * (hi * 18446744073709551616 + (l1 * 16777216 + L)) = 1099511627776 * (16513537 * (q1 * 4294967296 + q0)) + R0 * 4294967296 := by
  have k1 := congrArg (· * 18446744073709551616) hU
  have k2 := congrArg (· * 4294967296) hUN
  simp only [Nat.add_mul] at k1 k2
  omega
noncomputable def dAq (hi _lo : Nat) : Nat := hide (hi * 1099511627776)
noncomputable def dUq (hi lo : Nat) : Nat := hide (hi * 1099511627776 + lo / 16777216)
noncomputable def dVq (_hi lo : Nat) : Nat := hide (lo % 16777216 * 1099511627776)
noncomputable def dCq (_hi lo : Nat) : Nat := hide (lo % 16777216 * 256)
noncomputable def dQq (hi lo : Nat) : Nat := hide (dUq hi lo / 4229431552)
noncomputable def dEq (hi lo : Nat) : Nat := hide (dQq hi lo * 4229431552)
noncomputable def dRq (hi lo : Nat) : Nat := hide (dUq hi lo % 4229431552)
noncomputable def dNq (hi lo : Nat) : Nat := hide (dRq hi lo * 4294967296 + dCq hi lo)
noncomputable def dSq (hi lo : Nat) : Nat := hide (dNq hi lo / 4229431552)
noncomputable def dFq (hi lo : Nat) : Nat := hide (dSq hi lo * 4229431552)
noncomputable def dTq (hi lo : Nat) : Nat := hide (dNq hi lo % 4229431552)
theorem div_factsq (hi lo : Nat) : ∃ l1 L : Nat, lo = l1 * 16777216 + L ∧ L < 16777216 ∧ lo / 16777216 = l1 ∧ dAq hi lo = hi * 1099511627776 ∧ dUq hi lo = hi * 1099511627776 + l1 ∧ dVq hi lo = L * 1099511627776 ∧ dCq hi lo = L * 256 ∧
    dUq hi lo = 4229431552 * dQq hi lo + dRq hi lo ∧ dRq hi lo < 4229431552 ∧ dEq hi lo = dQq hi lo * 4229431552 ∧ dNq hi lo = dRq hi lo * 4294967296 + dCq hi lo ∧ dNq hi lo = 4229431552 * dSq hi lo + dTq hi lo ∧ dTq hi lo < 4229431552 ∧ dFq hi lo = dSq hi lo * 4229431552 ∧
    dQq hi lo = dUq hi lo / 4229431552 ∧ dSq hi lo = dNq hi lo / 4229431552 :=
  ⟨lo / 16777216, lo % 16777216, by omega, Nat.mod_lt _ (by omega), rfl, hide_eq _, hide_eq _, hide_eq _, hide_eq _, by rw [dQq, dRq, hide_eq, hide_eq]; exact (Nat.div_add_mod _ _).symm, by rw [dRq, hide_eq]; exact Nat.mod_lt _ (by omega),
    hide_eq _, hide_eq _, by rw [dSq, dTq, hide_eq, hide_eq]; exact (Nat.div_add_mod _ _).symm, by rw [dTq, hide_eq]; exact Nat.mod_lt _ (by omega), hide_eq _, hide_eq _, hide_eq _⟩
theorem div_keyq (hi l1 L q1 R q0 R0 : Nat) (hU : hi * 1099511627776 + l1 = 4229431552 * q1 + R) (hUN : R * 4294967296 + L * 256 = 4229431552 * q0 + R0) :
    1099511627776 * (hi * 18446744073709551616 + (l1 * 16777216 + L)) = 1099511627776 * (16521217 * (q1 * 4294967296 + q0)) + R0 * 4294967296 := by
  have k1 := congrArg (· * 18446744073709551616) hU
  have k2 := congrArg (· * 4294967296) hUN
  simp only [Nat.add_mul] at k1 k2
  omega
theorem wrap_subw (a b : Int) : IntKind.wrap .u64 (IntKind.wrap .u64 a - IntKind.wrap .u64 b) = IntKind.wrap .u64 (a - b) := by
  rw [wrap_u64, wrap_u64, wrap_u64, wrap_u64, ← Int.sub_emod]
theorem wrap_addw (a b : Int) : IntKind.wrap .u64 (IntKind.wrap .u64 a + b) = IntKind.wrap .u64 (a + b) := by
  rw [wrap_u64, wrap_u64, wrap_u64, Int.emod_add_emod]
theorem wrap_eq {z : Int} {n : Nat} (h : z = n) (hn : n < 18446744073709551616) : IntKind.wrap .u64 z = n := by
  rw [wrap_u64, h]
  omega
theorem wrap_z : IntKind.wrap .u64 ((0 : Nat) : Int) = 0 := rfl
end Go.Pl
namespace Go.Proofs.Ytlmjdcbhpffanaa
open Go.Sx Go.Pl
set_option linter.unusedVariables false
set_option maxRecDepth 100000
theorem dvp (hi lo : Nat) (K : List It → St → Prop) (R : SV → List HO → Prop) : W (xwp Try.prog X K18 [(108, []), (113, [])] 60 (fxOf Try.f97 [([0,0,1,1,1,1,1,1,1,1,1,1,1,1,1,1],2), ([0,0,1,1,1,1,1,1,1,1,1,1,1,1,1,1,1,1,1,1],2)] []) [.f, .f, .as 46 (.v (.int .u64 ((dAp hi lo : Nat) : Int))), .as 51 (.v (.int .u64 ((dUp hi lo : Nat) : Int))), .as 54 (.v (.int .u64 ((dVp hi lo : Nat) : Int))), .as 56 (.v (.int .u64 ((dCp hi lo : Nat) : Int))), .as 58 (.v (.int .u64 0)), .as 61 (.v (.int .u64 ((dQp hi lo : Nat) : Int))), .as 65 (.v (.int .u64 ((dEp hi lo : Nat) : Int))), .as 66 (.v (.int .u64 ((dRp hi lo : Nat) : Int))), .f, .f, .as 93 (.v (.int .u64 ((dNp hi lo : Nat) : Int))), .as 96 (.v (.int .u64 ((dSp hi lo : Nat) : Int))), .as 100 (.v (.int .u64 ((dFp hi lo : Nat) : Int))), .as 101 (.v (.int .u64 ((dTp hi lo : Nat) : Int))), .f, .f] [.at []] ⟨argsS 0 [.v (.int .u64 (hi : Int)), .v (.int .u64 (lo : Int)), .v (.int .u64 16513537)], []⟩ K R) = W ((∀ M : Mem, false = false) ∧ (∀ M : Mem, decide ((16513537 : Int) ≤ (↑hi : Int)) = false) ∧ bif (↑hi : Int) == (0 : Int) then (∀ M : Mem, ¬(16513537 : Int) = (0 : Int)) ∧ (∀ M : Mem, ¬(16513537 : Int) = (0 : Int)) ∧ R (.tup [.v (vu64 (IntKind.wrap IntKind.u64 (Int.tdiv (↑lo : Int) (16513537 : Int)))), .v (vu64 (Int.tmod (↑lo : Int) (16513537 : Int)))]) [] else (∀ M : Mem, ¬(16 : Int) < (0 : Int)) ∧ (∀ M : Mem, (0 : Int) ≤ (251 : Int) ∧ (251 : Int) < (256 : Int)) ∧ (∀ M : Mem, ¬(40 : Int) < (0 : Int)) ∧ (∀ M : Mem, ¬(32 : Int) < (0 : Int)) ∧ (∀ M : Mem, ¬(40 : Int) < (0 : Int)) ∧ (∀ M : Mem, vu64 (IntKind.wrap IntKind.u64 ((↑hi : Int) * (1099511627776 : Int))) = vu64 (↑(dAp hi lo) : Int)) ∧ (∀ M : Mem, ¬(24 : Int) < (0 : Int)) ∧ (∀ M : Mem, vu64 (IntKind.wrap IntKind.u64 (↑(dAp hi lo % 18446744073709551616 ||| Int.toNat (Int.fdiv (↑lo : Int) (16777216 : Int) % (18446744073709551616 : Int))) : Int)) = vu64 (↑(dUp hi lo) : Int)) ∧ (∀ M : Mem, ¬(40 : Int) < (0 : Int)) ∧ (∀ M : Mem, vu64 (IntKind.wrap IntKind.u64 ((↑lo : Int) * (1099511627776 : Int))) = vu64 (↑(dVp hi lo) : Int)) ∧ (∀ M : Mem, ¬(32 : Int) < (0 : Int)) ∧ (∀ M : Mem, vu64 (Int.fdiv (↑(dVp hi lo) : Int) (4294967296 : Int)) = vu64 (↑(dCp hi lo) : Int)) ∧ (∀ M : Mem, vu64 (IntKind.wrap IntKind.u64 (↑(dVp hi lo % 18446744073709551616 &&& 4294967295) : Int)) = vu64 0) ∧ (∀ M : Mem, ¬(4227465472 : Int) = (0 : Int)) ∧ (∀ M : Mem, vu64 (IntKind.wrap IntKind.u64 (Int.tdiv (↑(dUp hi lo) : Int) (4227465472 : Int))) = vu64 (↑(dQp hi lo) : Int)) ∧ (∀ M : Mem, vu64 (IntKind.wrap IntKind.u64 ((↑(dQp hi lo) : Int) * (4227465472 : Int))) = vu64 (↑(dEp hi lo) : Int)) ∧ (∀ M : Mem, vu64 (IntKind.wrap IntKind.u64 ((↑(dUp hi lo) : Int) - (↑(dEp hi lo) : Int))) = vu64 (↑(dRp hi lo) : Int)) ∧ (∀ M : Mem, decide ((4294967296 : Int) ≤ (↑(dQp hi lo) : Int)) = false) ∧ (∀ M : Mem, decide (IntKind.wrap IntKind.u64 (IntKind.wrap IntKind.u64 ((4294967296 : Int) * (↑(dRp hi lo) : Int)) + (↑(dCp hi lo) : Int)) < IntKind.wrap IntKind.u64 ((↑(dQp hi lo) : Int) * (0 : Int))) = false) ∧ (∀ M : Mem, vu64 (IntKind.wrap IntKind.u64 (IntKind.wrap IntKind.u64 (IntKind.wrap IntKind.u64 ((↑(dUp hi lo) : Int) * (4294967296 : Int)) + (↑(dCp hi lo) : Int)) - IntKind.wrap IntKind.u64 ((↑(dQp hi lo) : Int) * (18156825947209203712 : Int)))) = vu64 (↑(dNp hi lo) : Int)) ∧ (∀ M : Mem, ¬(4227465472 : Int) = (0 : Int)) ∧ (∀ M : Mem, vu64 (IntKind.wrap IntKind.u64 (Int.tdiv (↑(dNp hi lo) : Int) (4227465472 : Int))) = vu64 (↑(dSp hi lo) : Int)) ∧ (∀ M : Mem, vu64 (IntKind.wrap IntKind.u64 ((↑(dSp hi lo) : Int) * (4227465472 : Int))) = vu64 (↑(dFp hi lo) : Int)) ∧ (∀ M : Mem, vu64 (IntKind.wrap IntKind.u64 ((↑(dNp hi lo) : Int) - (↑(dFp hi lo) : Int))) = vu64 (↑(dTp hi lo) : Int)) ∧ (∀ M : Mem, decide ((4294967296 : Int) ≤ (↑(dSp hi lo) : Int)) = false) ∧ (∀ M : Mem, decide (IntKind.wrap IntKind.u64 (IntKind.wrap IntKind.u64 ((4294967296 : Int) * (↑(dTp hi lo) : Int)) + (0 : Int)) < IntKind.wrap IntKind.u64 ((↑(dSp hi lo) : Int) * (0 : Int))) = false) ∧ (∀ M : Mem, ¬(40 : Int) < (0 : Int)) ∧ R (.tup [.v (vu64 (IntKind.wrap IntKind.u64 (IntKind.wrap IntKind.u64 ((↑(dQp hi lo) : Int) * (4294967296 : Int)) + (↑(dSp hi lo) : Int)))), .v (vu64 (Int.fdiv (IntKind.wrap IntKind.u64 (IntKind.wrap IntKind.u64 (IntKind.wrap IntKind.u64 ((↑(dNp hi lo) : Int) * (4294967296 : Int)) + (0 : Int)) - IntKind.wrap IntKind.u64 ((↑(dSp hi lo) : Int) * (18156825947209203712 : Int)))) (1099511627776 : Int)))]) []) := by kernel_rfl
theorem dvq (hi lo : Nat) (K : List It → St → Prop) (R : SV → List HO → Prop) : W (xwp Try.prog X K18 [(108, []), (113, [])] 60 (fxOf Try.f97 [([0,0,1,1,1,1,1,1,1,1,1,1,1,1,1,1],2), ([0,0,1,1,1,1,1,1,1,1,1,1,1,1,1,1,1,1,1,1],2)] []) [.f, .f, .as 46 (.v (.int .u64 ((dAq hi lo : Nat) : Int))), .as 51 (.v (.int .u64 ((dUq hi lo : Nat) : Int))), .as 54 (.v (.int .u64 ((dVq hi lo : Nat) : Int))), .as 56 (.v (.int .u64 ((dCq hi lo : Nat) : Int))), .as 58 (.v (.int .u64 0)), .as 61 (.v (.int .u64 ((dQq hi lo : Nat) : Int))), .as 65 (.v (.int .u64 ((dEq hi lo : Nat) : Int))), .as 66 (.v (.int .u64 ((dRq hi lo : Nat) : Int))), .f, .f, .as 93 (.v (.int .u64 ((dNq hi lo : Nat) : Int))), .as 96 (.v (.int .u64 ((dSq hi lo : Nat) : Int))), .as 100 (.v (.int .u64 ((dFq hi lo : Nat) : Int))), .as 101 (.v (.int .u64 ((dTq hi lo : Nat) : Int))), .f, .f] [.at []] ⟨argsS 0 [.v (.int .u64 (hi : Int)), .v (.int .u64 (lo : Int)), .v (.int .u64 16521217)], []⟩ K R) = W ((∀ M : Mem, false = false) ∧ (∀ M : Mem, decide ((16521217 : Int) ≤ (↑hi : Int)) = false) ∧ bif (↑hi : Int) == (0 : Int) then (∀ M : Mem, ¬(16521217 : Int) = (0 : Int)) ∧ (∀ M : Mem, ¬(16521217 : Int) = (0 : Int)) ∧ R (.tup [.v (vu64 (IntKind.wrap IntKind.u64 (Int.tdiv (↑lo : Int) (16521217 : Int)))), .v (vu64 (Int.tmod (↑lo : Int) (16521217 : Int)))]) [] else (∀ M : Mem, ¬(16 : Int) < (0 : Int)) ∧ (∀ M : Mem, (0 : Int) ≤ (252 : Int) ∧ (252 : Int) < (256 : Int)) ∧ (∀ M : Mem, ¬(40 : Int) < (0 : Int)) ∧ (∀ M : Mem, ¬(32 : Int) < (0 : Int)) ∧ (∀ M : Mem, ¬(40 : Int) < (0 : Int)) ∧ (∀ M : Mem, vu64 (IntKind.wrap IntKind.u64 ((↑hi : Int) * (1099511627776 : Int))) = vu64 (↑(dAq hi lo) : Int)) ∧ (∀ M : Mem, ¬(24 : Int) < (0 : Int)) ∧ (∀ M : Mem, vu64 (IntKind.wrap IntKind.u64 (↑(dAq hi lo % 18446744073709551616 ||| Int.toNat (Int.fdiv (↑lo : Int) (16777216 : Int) % (18446744073709551616 : Int))) : Int)) = vu64 (↑(dUq hi lo) : Int)) ∧ (∀ M : Mem, ¬(40 : Int) < (0 : Int)) ∧ (∀ M : Mem, vu64 (IntKind.wrap IntKind.u64 ((↑lo : Int) * (1099511627776 : Int))) = vu64 (↑(dVq hi lo) : Int)) ∧ (∀ M : Mem, ¬(32 : Int) < (0 : Int)) ∧ (∀ M : Mem, vu64 (Int.fdiv (↑(dVq hi lo) : Int) (4294967296 : Int)) = vu64 (↑(dCq hi lo) : Int)) ∧ (∀ M : Mem, vu64 (IntKind.wrap IntKind.u64 (↑(dVq hi lo % 18446744073709551616 &&& 4294967295) : Int)) = vu64 0) ∧ (∀ M : Mem, ¬(4229431552 : Int) = (0 : Int)) ∧ (∀ M : Mem, vu64 (IntKind.wrap IntKind.u64 (Int.tdiv (↑(dUq hi lo) : Int) (4229431552 : Int))) = vu64 (↑(dQq hi lo) : Int)) ∧ (∀ M : Mem, vu64 (IntKind.wrap IntKind.u64 ((↑(dQq hi lo) : Int) * (4229431552 : Int))) = vu64 (↑(dEq hi lo) : Int)) ∧ (∀ M : Mem, vu64 (IntKind.wrap IntKind.u64 ((↑(dUq hi lo) : Int) - (↑(dEq hi lo) : Int))) = vu64 (↑(dRq hi lo) : Int)) ∧ (∀ M : Mem, decide ((4294967296 : Int) ≤ (↑(dQq hi lo) : Int)) = false) ∧ (∀ M : Mem, decide (IntKind.wrap IntKind.u64 (IntKind.wrap IntKind.u64 ((4294967296 : Int) * (↑(dRq hi lo) : Int)) + (↑(dCq hi lo) : Int)) < IntKind.wrap IntKind.u64 ((↑(dQq hi lo) : Int) * (0 : Int))) = false) ∧ (∀ M : Mem, vu64 (IntKind.wrap IntKind.u64 (IntKind.wrap IntKind.u64 (IntKind.wrap IntKind.u64 ((↑(dUq hi lo) : Int) * (4294967296 : Int)) + (↑(dCq hi lo) : Int)) - IntKind.wrap IntKind.u64 ((↑(dQq hi lo) : Int) * (18165270196510523392 : Int)))) = vu64 (↑(dNq hi lo) : Int)) ∧ (∀ M : Mem, ¬(4229431552 : Int) = (0 : Int)) ∧ (∀ M : Mem, vu64 (IntKind.wrap IntKind.u64 (Int.tdiv (↑(dNq hi lo) : Int) (4229431552 : Int))) = vu64 (↑(dSq hi lo) : Int)) ∧ (∀ M : Mem, vu64 (IntKind.wrap IntKind.u64 ((↑(dSq hi lo) : Int) * (4229431552 : Int))) = vu64 (↑(dFq hi lo) : Int)) ∧ (∀ M : Mem, vu64 (IntKind.wrap IntKind.u64 ((↑(dNq hi lo) : Int) - (↑(dFq hi lo) : Int))) = vu64 (↑(dTq hi lo) : Int)) ∧ (∀ M : Mem, decide ((4294967296 : Int) ≤ (↑(dSq hi lo) : Int)) = false) ∧ (∀ M : Mem, decide (IntKind.wrap IntKind.u64 (IntKind.wrap IntKind.u64 ((4294967296 : Int) * (↑(dTq hi lo) : Int)) + (0 : Int)) < IntKind.wrap IntKind.u64 ((↑(dSq hi lo) : Int) * (0 : Int))) = false) ∧ (∀ M : Mem, ¬(40 : Int) < (0 : Int)) ∧ R (.tup [.v (vu64 (IntKind.wrap IntKind.u64 (IntKind.wrap IntKind.u64 ((↑(dQq hi lo) : Int) * (4294967296 : Int)) + (↑(dSq hi lo) : Int)))), .v (vu64 (Int.fdiv (IntKind.wrap IntKind.u64 (IntKind.wrap IntKind.u64 (IntKind.wrap IntKind.u64 ((↑(dNq hi lo) : Int) * (4294967296 : Int)) + (0 : Int)) - IntKind.wrap IntKind.u64 ((↑(dSq hi lo) : Int) * (18165270196510523392 : Int)))) (1099511627776 : Int)))]) []) := by kernel_rfl
theorem bDvp : Try.f97.body.isSome = true := by kernel_rfl
theorem nDvp (hi lo : Nat) : Nat.ble [SV.v (.int .u64 (hi : Int)), .v (.int .u64 (lo : Int)), .v (.int .u64 16513537)].length Try.f97.ntmps = true := by kernel_rfl
theorem dvp_ok (hi lo : Nat) (hh : hi < 16513537) (hl : lo < 18446744073709551616) (Q0 : SV → List HO → Prop) (hq : Q0 (.tup [.v (.int .u64 ((dvQ 16513537 hi lo : Nat) : Int)), .v (.int .u64 ((dvR 16513537 hi lo : Nat) : Int))]) []) : FnOk Try.prog 97 [.v (.int .u64 (hi : Int)), .v (.int .u64 (lo : Int)), .v (.int .u64 16513537)] [] Q0 := by
  refine fn_of_ok Try.func97 bDvp ?_ ?_
  · exact nDvp hi lo
  refine run_sound hm 60 ((dvp hi lo _ _).mpr ⟨?_⟩)
  refine And.intro (fun _ => rfl) (And.intro (fun _ => decide_eq_false (by omega)) ?_)
  rw [cond_beq]
  refine ite_intro (fun h0 => ?_) (fun h0 => ?_)
  · have hz : hi = 0 := by omega
    subst hz
    refine And.intro (fun _ => by omega) (And.intro (fun _ => by omega) ?_)
    rw [show Int.tdiv (lo : Int) (16513537 : Int) = ((lo / 16513537 : Nat) : Int) from tdivNat lo 16513537, show Int.tmod (lo : Int) (16513537 : Int) = ((lo % 16513537 : Nat) : Int) from tmodNat lo 16513537, wrap_u64,
      show ((lo / 16513537 : Nat) : Int) % 18446744073709551616 = ((dvQ 16513537 0 lo : Nat) : Int) by rw [dvQ, hide_eq]; omega, show ((lo % 16513537 : Nat) : Int) = ((dvR 16513537 0 lo : Nat) : Int) by rw [dvR, hide_eq]; omega]
    exact hq
  · obtain ⟨l1, L, e0, bL, e1, eA, eU, eV, eC, eUQ, bR, eE, eN, eNS, bT, eF, eQ, eS⟩ := div_factsp hi lo
    have tq : ∀ n : Nat, Int.tdiv (n : Int) (4227465472 : Int) = ((n / 4227465472 : Nat) : Int) := fun n => tdivNat n 4227465472
    have fq : Int.fdiv (lo : Int) (16777216 : Int) = ((l1 : Nat) : Int) := by rw [← e1]; exact fdiv_nat lo 16777216 (by omega)
    have fv : ∀ n : Nat, Int.fdiv (n : Int) (4294967296 : Int) = ((n / 4294967296 : Nat) : Int) := fdivN
    have fp : ∀ n : Nat, Int.fdiv (n : Int) (1099511627776 : Int) = ((n / 1099511627776 : Nat) : Int) := fun n => fdiv_nat n 1099511627776 (by omega)
    generalize hdA : dAp hi lo = A at *
    generalize hdU : dUp hi lo = U at *
    generalize hdV : dVp hi lo = V at *
    generalize hdC : dCp hi lo = C at *
    generalize hdQ : dQp hi lo = Q at *
    generalize hdE : dEp hi lo = E at *
    generalize hdR : dRp hi lo = R at *
    generalize hdN : dNp hi lo = N at *
    generalize hdS : dSp hi lo = S at *
    generalize hdF : dFp hi lo = F at *
    generalize hdT : dTp hi lo = T at *
    clear hdA hdU hdV hdC hdQ hdE hdR hdN hdS hdF hdT
    have b1 : l1 < 1099511627776 := by omega
    clear e1
    have bQ : Q < 4294967296 := by omega
    have bC : C < 4294967296 := by omega
    have bS : S < 4294967296 := by omega
    have hk := div_keyp hi l1 L Q R S T (by omega) (by omega)
    obtain ⟨g1, g2⟩ := div_core 1099511627776 16513537 (Q * 4294967296 + S) _ (T * 4294967296) (by omega) (by omega) hk (by omega)
    have e9 : IntKind.wrap .u64 (IntKind.wrap .u64 (IntKind.wrap .u64 ((N : Int) * (4294967296 : Int)) + (0 : Int)) - IntKind.wrap .u64 ((S : Int) * (18156825947209203712 : Int))) = ((T * 4294967296 : Nat) : Int) := by
      rw [wrap_addw, wrap_subw]
      exact wrap_eq (by omega) (by omega)
    have r1 : IntKind.wrap .u64 (IntKind.wrap .u64 ((Q : Int) * (4294967296 : Int)) + (S : Int)) = ((dvQ 16513537 hi lo : Nat) : Int) := by
      rw [wrap_addw, dvQ, hide_eq, e0, g1]
      exact wrap_eq (by omega) (by omega)
    have r2 : Int.fdiv ((T * 4294967296 : Nat) : Int) (1099511627776 : Int) = ((dvR 16513537 hi lo : Nat) : Int) := by
      rw [fp, dvR, hide_eq, e0, g2]
    rw [e9, r1, r2]
    clear r1 r2 e9 g1 g2 hk
    have t1 : A % 18446744073709551616 = A := Nat.mod_eq_of_lt (by omega)
    have t2 := toNat_mod l1 (by omega)
    have t3 : V % 18446744073709551616 = V := Nat.mod_eq_of_lt (by omega)
    have ho : A ||| l1 = U := by rw [eA, eU]; exact or_at 40 hi l1 b1
    have ha : V &&& 4294967295 = 0 := and32 _ (by omega)
    have hV : IntKind.wrap .u64 ((lo : Int) * (1099511627776 : Int)) = (V : Int) := by
      have h9 : (lo : Int) * (1099511627776 : Int) = (l1 : Int) * 18446744073709551616 + (V : Int) := by omega
      rw [wrap_u64, h9]
      omega
    simp only [forall_const, hV, tq, fq, fv, t1, t2, t3, ho, ha, wrap_addw, wrap_subw, wrap_z, ← eQ, ← eS]
    have bN : N < 18156825947209203712 := by omega
    clear eQ eS ho ha t1 t2 t3 tq fq fv fp
    repeat' (first | refine And.intro ?_ ?_)
    all_goals (first | exact hq | exact True.intro | exact int_eq (wrap_eq (by omega) (by omega)) | exact int_eq (by omega) | (rw [Int.mul_zero, wrap_u64, wrap_u64]; exact decide_eq_false (by omega)) | exact decide_eq_false (by omega) | omega)
theorem bDvq : Try.f97.body.isSome = true := by kernel_rfl
theorem nDvq (hi lo : Nat) : Nat.ble [SV.v (.int .u64 (hi : Int)), .v (.int .u64 (lo : Int)), .v (.int .u64 16521217)].length Try.f97.ntmps = true := by kernel_rfl
theorem dvq_ok (hi lo : Nat) (hh : hi < 16521217) (hl : lo < 18446744073709551616) (Q0 : SV → List HO → Prop) (hq : Q0 (.tup [.v (.int .u64 ((dvQ 16521217 hi lo : Nat) : Int)), .v (.int .u64 ((dvR 16521217 hi lo : Nat) : Int))]) []) : FnOk Try.prog 97 [.v (.int .u64 (hi : Int)), .v (.int .u64 (lo : Int)), .v (.int .u64 16521217)] [] Q0 := by
  refine fn_of_ok Try.func97 bDvq ?_ ?_
  · exact nDvq hi lo
  refine run_sound hm 60 ((dvq hi lo _ _).mpr ⟨?_⟩)
  refine And.intro (fun _ => rfl) (And.intro (fun _ => decide_eq_false (by omega)) ?_)
  rw [cond_beq]
  refine ite_intro (fun h0 => ?_) (fun h0 => ?_)
  · have hz : hi = 0 := by omega
    subst hz
    refine And.intro (fun _ => by omega) (And.intro (fun _ => by omega) ?_)
    rw [show Int.tdiv (lo : Int) (16521217 : Int) = ((lo / 16521217 : Nat) : Int) from tdivNat lo 16521217, show Int.tmod (lo : Int) (16521217 : Int) = ((lo % 16521217 : Nat) : Int) from tmodNat lo 16521217, wrap_u64,
      show ((lo / 16521217 : Nat) : Int) % 18446744073709551616 = ((dvQ 16521217 0 lo : Nat) : Int) by rw [dvQ, hide_eq]; omega, show ((lo % 16521217 : Nat) : Int) = ((dvR 16521217 0 lo : Nat) : Int) by rw [dvR, hide_eq]; omega]
    exact hq
  · obtain ⟨l1, L, e0, bL, e1, eA, eU, eV, eC, eUQ, bR, eE, eN, eNS, bT, eF, eQ, eS⟩ := div_factsq hi lo
    have tq : ∀ n : Nat, Int.tdiv (n : Int) (4229431552 : Int) = ((n / 4229431552 : Nat) : Int) := fun n => tdivNat n 4229431552
    have fq : Int.fdiv (lo : Int) (16777216 : Int) = ((l1 : Nat) : Int) := by rw [← e1]; exact fdiv_nat lo 16777216 (by omega)
    have fv : ∀ n : Nat, Int.fdiv (n : Int) (4294967296 : Int) = ((n / 4294967296 : Nat) : Int) := fdivN
    have fp : ∀ n : Nat, Int.fdiv (n : Int) (1099511627776 : Int) = ((n / 1099511627776 : Nat) : Int) := fun n => fdiv_nat n 1099511627776 (by omega)
    generalize hdA : dAq hi lo = A at *
    generalize hdU : dUq hi lo = U at *
    generalize hdV : dVq hi lo = V at *
    generalize hdC : dCq hi lo = C at *
    generalize hdQ : dQq hi lo = Q at *
    generalize hdE : dEq hi lo = E at *
    generalize hdR : dRq hi lo = R at *
    generalize hdN : dNq hi lo = N at *
    generalize hdS : dSq hi lo = S at *
    generalize hdF : dFq hi lo = F at *
    generalize hdT : dTq hi lo = T at *
    clear hdA hdU hdV hdC hdQ hdE hdR hdN hdS hdF hdT
    have b1 : l1 < 1099511627776 := by omega
    clear e1
    have bQ : Q < 4294967296 := by omega
    have bC : C < 4294967296 := by omega
    have bS : S < 4294967296 := by omega
    have hk := div_keyq hi l1 L Q R S T (by omega) (by omega)
    obtain ⟨g1, g2⟩ := div_core 1099511627776 16521217 (Q * 4294967296 + S) _ (T * 4294967296) (by omega) (by omega) hk (by omega)
    have e9 : IntKind.wrap .u64 (IntKind.wrap .u64 (IntKind.wrap .u64 ((N : Int) * (4294967296 : Int)) + (0 : Int)) - IntKind.wrap .u64 ((S : Int) * (18165270196510523392 : Int))) = ((T * 4294967296 : Nat) : Int) := by
      rw [wrap_addw, wrap_subw]
      exact wrap_eq (by omega) (by omega)
    have r1 : IntKind.wrap .u64 (IntKind.wrap .u64 ((Q : Int) * (4294967296 : Int)) + (S : Int)) = ((dvQ 16521217 hi lo : Nat) : Int) := by
      rw [wrap_addw, dvQ, hide_eq, e0, g1]
      exact wrap_eq (by omega) (by omega)
    have r2 : Int.fdiv ((T * 4294967296 : Nat) : Int) (1099511627776 : Int) = ((dvR 16521217 hi lo : Nat) : Int) := by
      rw [fp, dvR, hide_eq, e0, g2]
    rw [e9, r1, r2]
    clear r1 r2 e9 g1 g2 hk
    have t1 : A % 18446744073709551616 = A := Nat.mod_eq_of_lt (by omega)
    have t2 := toNat_mod l1 (by omega)
    have t3 : V % 18446744073709551616 = V := Nat.mod_eq_of_lt (by omega)
    have ho : A ||| l1 = U := by rw [eA, eU]; exact or_at 40 hi l1 b1
    have ha : V &&& 4294967295 = 0 := and32 _ (by omega)
    have hV : IntKind.wrap .u64 ((lo : Int) * (1099511627776 : Int)) = (V : Int) := by
      have h9 : (lo : Int) * (1099511627776 : Int) = (l1 : Int) * 18446744073709551616 + (V : Int) := by omega
      rw [wrap_u64, h9]
      omega
    simp only [forall_const, hV, tq, fq, fv, t1, t2, t3, ho, ha, wrap_addw, wrap_subw, wrap_z, ← eQ, ← eS]
    have bN : N < 18165270196510523392 := by omega
    clear eQ eS ho ha t1 t2 t3 tq fq fv fp
    repeat' (first | refine And.intro ?_ ?_)
    all_goals (first | exact hq | exact True.intro | exact int_eq (wrap_eq (by omega) (by omega)) | exact int_eq (by omega) | (rw [Int.mul_zero, wrap_u64, wrap_u64]; exact decide_eq_false (by omega)) | exact decide_eq_false (by omega) | omega)
noncomputable def gDv : List SV → List HO → Option ((SV → List HO → Prop) → Prop)
  | [.v (.int .u64 hi), .v (.int .u64 lo), .v (.int .u64 y)], [] => some fun Q => ∃ h l : Nat, [hi, lo] = [(h : Int), (l : Int)] ∧ (y = 16513537 ∧ h < 16513537 ∨ y = 16521217 ∧ h < 16521217) ∧ l < 18446744073709551616 ∧ Q (.tup [.v (.int .u64 ((dvQ y.toNat h l : Nat) : Int)), .v (.int .u64 ((dvR y.toNat h l : Nat) : Int))]) []
  | _, _ => none
theorem gDv_ok (args : List SV) (h : List HO) (tr : (SV → List HO → Prop) → Prop) (Q : SV → List HO → Prop) (hc : gDv args h = some tr) (ht : tr Q) : FnOk Try.prog 97 args h Q := by
  unfold gDv at hc
  split at hc
  · rename_i hi lo y
    simp only [Option.some.injEq] at hc
    subst hc
    obtain ⟨h, l, e1, hy, hl, hq⟩ := ht
    simp only [List.cons.injEq, and_true] at e1
    obtain ⟨rfl, rfl⟩ := e1
    rcases hy with ⟨rfl, hy⟩ | ⟨rfl, hy⟩
    · exact dvp_ok h l hy hl Q hq
    · exact dvq_ok h l hy hl Q hq
  · cases hc
noncomputable def K19 : Con Try.prog := K18.add 97 gDv gDv_ok
end Go.Proofs.Ytlmjdcbhpffanaa
/- A number by a little modulus: the field's reduce. -/
namespace Go.Pl
open Go.Sx
noncomputable def fR (p a : Nat) : Nat := hide (a % p)
theorem fR_eq (p a : Nat) : fR p a = a % p := hide_eq _
theorem dvR_eq (y hi lo : Nat) : dvR y hi lo = (hi * 18446744073709551616 + lo) % y := hide_eq _
theorem mstep (p x y : Nat) : (x % p * 18446744073709551616 + y) % p = (x * 18446744073709551616 + y) % p := by
  rw [Nat.add_mod, Nat.mul_mod, Nat.mod_mod, ← Nat.mul_mod, ← Nat.add_mod]
theorem dv4 (p a : Nat) (ha : a < top) : dvR p (dvR p (dvR p (dvR p 0 (limb a 3)) (limb a 2)) (limb a 1)) (limb a 0) = a % p := by
  rw [show dvR p 0 (limb a 3) = limb a 3 % p by rw [dvR_eq, Nat.zero_mul, Nat.zero_add]]
  rw [show dvR p (limb a 3 % p) (limb a 2) = (limb a 3 * 18446744073709551616 + limb a 2) % p by rw [dvR_eq, mstep]]
  rw [show dvR p ((limb a 3 * 18446744073709551616 + limb a 2) % p) (limb a 1) = ((limb a 3 * 18446744073709551616 + limb a 2) * 18446744073709551616 + limb a 1) % p by rw [dvR_eq, mstep]]
  rw [dvR_eq, mstep]
  congr 1
  have := nv_limb a
  rw [Nat.mod_eq_of_lt ha] at this
  simp only [nv] at this
  omega
theorem or_lt {x y : Nat} (hx : x < 18446744073709551616) (hy : y < 18446744073709551616) : x ||| y < 18446744073709551616 :=
  Nat.or_lt_two_pow (n := 64) hx hy
theorem limb_small (r : Nat) (h : r < 18446744073709551616) : limb r 0 = r ∧ limb r 1 = 0 ∧ limb r 2 = 0 ∧ limb r 3 = 0 := by
  have := limb_nv (a := r) (b := 0) (c := 0) (d := 0) h (by omega) (by omega) (by omega)
  rw [show nv r 0 0 0 = r by simp [nv]] at this
  exact this
theorem or3 (x y z : Nat) (hx : x < 18446744073709551616) (hy : y < 18446744073709551616) (hz : z < 18446744073709551616) :
    (IntKind.wrap IntKind.u64 (((x % 18446744073709551616 ||| y % 18446744073709551616) % 18446744073709551616 % 18446744073709551616 ||| z % 18446744073709551616 : Nat) : Int) == (0 : Int)) = decide (x = 0 ∧ y = 0 ∧ z = 0) := by
  have e1 := or_lt hx hy
  have e2 := or_lt e1 hz
  rw [Nat.mod_eq_of_lt hx, Nat.mod_eq_of_lt hy, Nat.mod_eq_of_lt hz, Nat.mod_eq_of_lt e1, Nat.mod_eq_of_lt e1, wrapN _ e2]
  rw [Bool.eq_iff_iff, beq_iff_eq, decide_eq_true_iff]
  constructor
  · intro h
    have h1 : x ||| y ||| z = 0 := by omega
    rw [Nat.or_eq_zero_iff, Nat.or_eq_zero_iff] at h1
    exact ⟨h1.1.1, h1.1.2, h1.2⟩
  · rintro ⟨rfl, rfl, rfl⟩
    rfl
theorem low_only {a : Nat} (ha : a < top) (hz : limb a 1 = 0 ∧ limb a 2 = 0 ∧ limb a 3 = 0) : limb a 0 = a := by
  have := nv_limb a
  rw [Nat.mod_eq_of_lt ha, hz.1, hz.2.1, hz.2.2] at this
  simp only [nv] at this
  omega
end Go.Pl
namespace Go.Proofs.Ytlmjdcbhpffanaa
open Go.Sx Go.Pl
set_option linter.unusedVariables false
set_option maxRecDepth 100000
theorem rdpS (a : Nat) (K : List It → St → Prop) (R : SV → List HO → Prop) : W (xwp Try.prog X K19 [] 60 (fxOf Try.f74 [([0,1,0,1,1,0,1,0,1],5)] []) [] [.at []] ⟨argsS 0 [.agg [.v (.int .u64 16513537), .v (.int .u64 0), .v (.int .u64 0), .v (.int .u64 0), .v (.int .i64 9), .v (.int .u64 16513537), .v (.int .u64 0), .v (.int .u64 0), .v (.int .u64 0), .v (.int .u64 0), .v (.int .u64 0)], .agg [.v (.int .u64 (limb a 0 : Nat)), .v (.int .u64 (limb a 1 : Nat)), .v (.int .u64 (limb a 2 : Nat)), .v (.int .u64 (limb a 3 : Nat))]], []⟩ K R) = W ((∀ M : Mem, (0 : Int) ≤ (1 : Int) ∧ (1 : Int) < (4 : Int)) ∧ (∀ M : Mem, (0 : Int) ≤ (2 : Int) ∧ (2 : Int) < (4 : Int)) ∧ (∀ M : Mem, (0 : Int) ≤ (3 : Int) ∧ (3 : Int) < (4 : Int)) ∧ bif IntKind.wrap IntKind.u64 (↑((limb a 1 % 18446744073709551616 ||| limb a 2 % 18446744073709551616) % 18446744073709551616 % 18446744073709551616 ||| limb a 3 % 18446744073709551616) : Int) == (0 : Int) then (∀ M : Mem, (0 : Int) ≤ (0 : Int) ∧ (0 : Int) < (4 : Int)) ∧ (∀ M : Mem, ¬(16513537 : Int) = (0 : Int)) ∧ (∀ M : Mem, 0 + 4 ≤ 4) ∧ R (.agg [.v (vu64 (Int.tmod (↑(limb a 0) : Int) (16513537 : Int))), .v (vu64 0), .v (vu64 0), .v (vu64 0)]) [] else (∀ M : Mem, (0 : Int) ≤ (3 : Int) ∧ (3 : Int) < (4 : Int)) ∧ ∃ (h : Nat), ∃ (l : Nat), [(0 : Int), (↑(limb a 3) : Int)] = [(↑h : Int), (↑l : Int)] ∧ ((16513537 : Int) = (16513537 : Int) ∧ h < 16513537 ∨ (16513537 : Int) = (16521217 : Int) ∧ h < 16521217) ∧ l < 18446744073709551616 ∧ (∀ M : Mem, (0 : Int) ≤ (2 : Int) ∧ (2 : Int) < (4 : Int)) ∧ ∃ (h_1 : Nat), ∃ (l_1 : Nat), [(↑(dvR 16513537 h l) : Int), (↑(limb a 2) : Int)] = [(↑h_1 : Int), (↑l_1 : Int)] ∧ ((16513537 : Int) = (16513537 : Int) ∧ h_1 < 16513537 ∨ (16513537 : Int) = (16521217 : Int) ∧ h_1 < 16521217) ∧ l_1 < 18446744073709551616 ∧ (∀ M : Mem, (0 : Int) ≤ (1 : Int) ∧ (1 : Int) < (4 : Int)) ∧ ∃ (h : Nat), ∃ (l : Nat), [(↑(dvR 16513537 h_1 l_1) : Int), (↑(limb a 1) : Int)] = [(↑h : Int), (↑l : Int)] ∧ ((16513537 : Int) = (16513537 : Int) ∧ h < 16513537 ∨ (16513537 : Int) = (16521217 : Int) ∧ h < 16521217) ∧ l < 18446744073709551616 ∧ (∀ M : Mem, (0 : Int) ≤ (0 : Int) ∧ (0 : Int) < (4 : Int)) ∧ ∃ (h_2 : Nat), ∃ (l_2 : Nat), [(↑(dvR 16513537 h l) : Int), (↑(limb a 0) : Int)] = [(↑h_2 : Int), (↑l_2 : Int)] ∧ ((16513537 : Int) = (16513537 : Int) ∧ h_2 < 16513537 ∨ (16513537 : Int) = (16521217 : Int) ∧ h_2 < 16521217) ∧ l_2 < 18446744073709551616 ∧ (∀ M : Mem, 0 + 4 ≤ 4) ∧ R (.agg [.v (vu64 (↑(dvR 16513537 h_2 l_2) : Int)), .v (vu64 0), .v (vu64 0), .v (vu64 0)]) []) := by kernel_rfl
theorem rdqS (a : Nat) (K : List It → St → Prop) (R : SV → List HO → Prop) : W (xwp Try.prog X K19 [] 60 (fxOf Try.f74 [([0,1,0,1,1,0,1,0,1],5)] []) [] [.at []] ⟨argsS 0 [.agg [.v (.int .u64 16521217), .v (.int .u64 0), .v (.int .u64 0), .v (.int .u64 0), .v (.int .i64 11), .v (.int .u64 16521217), .v (.int .u64 0), .v (.int .u64 0), .v (.int .u64 0), .v (.int .u64 0), .v (.int .u64 0)], .agg [.v (.int .u64 (limb a 0 : Nat)), .v (.int .u64 (limb a 1 : Nat)), .v (.int .u64 (limb a 2 : Nat)), .v (.int .u64 (limb a 3 : Nat))]], []⟩ K R) = W ((∀ M : Mem, (0 : Int) ≤ (1 : Int) ∧ (1 : Int) < (4 : Int)) ∧ (∀ M : Mem, (0 : Int) ≤ (2 : Int) ∧ (2 : Int) < (4 : Int)) ∧ (∀ M : Mem, (0 : Int) ≤ (3 : Int) ∧ (3 : Int) < (4 : Int)) ∧ bif IntKind.wrap IntKind.u64 (↑((limb a 1 % 18446744073709551616 ||| limb a 2 % 18446744073709551616) % 18446744073709551616 % 18446744073709551616 ||| limb a 3 % 18446744073709551616) : Int) == (0 : Int) then (∀ M : Mem, (0 : Int) ≤ (0 : Int) ∧ (0 : Int) < (4 : Int)) ∧ (∀ M : Mem, ¬(16521217 : Int) = (0 : Int)) ∧ (∀ M : Mem, 0 + 4 ≤ 4) ∧ R (.agg [.v (vu64 (Int.tmod (↑(limb a 0) : Int) (16521217 : Int))), .v (vu64 0), .v (vu64 0), .v (vu64 0)]) [] else (∀ M : Mem, (0 : Int) ≤ (3 : Int) ∧ (3 : Int) < (4 : Int)) ∧ ∃ (h : Nat), ∃ (l : Nat), [(0 : Int), (↑(limb a 3) : Int)] = [(↑h : Int), (↑l : Int)] ∧ ((16521217 : Int) = (16513537 : Int) ∧ h < 16513537 ∨ (16521217 : Int) = (16521217 : Int) ∧ h < 16521217) ∧ l < 18446744073709551616 ∧ (∀ M : Mem, (0 : Int) ≤ (2 : Int) ∧ (2 : Int) < (4 : Int)) ∧ ∃ (h_1 : Nat), ∃ (l_1 : Nat), [(↑(dvR 16521217 h l) : Int), (↑(limb a 2) : Int)] = [(↑h_1 : Int), (↑l_1 : Int)] ∧ ((16521217 : Int) = (16513537 : Int) ∧ h_1 < 16513537 ∨ (16521217 : Int) = (16521217 : Int) ∧ h_1 < 16521217) ∧ l_1 < 18446744073709551616 ∧ (∀ M : Mem, (0 : Int) ≤ (1 : Int) ∧ (1 : Int) < (4 : Int)) ∧ ∃ (h : Nat), ∃ (l : Nat), [(↑(dvR 16521217 h_1 l_1) : Int), (↑(limb a 1) : Int)] = [(↑h : Int), (↑l : Int)] ∧ ((16521217 : Int) = (16513537 : Int) ∧ h < 16513537 ∨ (16521217 : Int) = (16521217 : Int) ∧ h < 16521217) ∧ l < 18446744073709551616 ∧ (∀ M : Mem, (0 : Int) ≤ (0 : Int) ∧ (0 : Int) < (4 : Int)) ∧ ∃ (h_2 : Nat), ∃ (l_2 : Nat), [(↑(dvR 16521217 h l) : Int), (↑(limb a 0) : Int)] = [(↑h_2 : Int), (↑l_2 : Int)] ∧ ((16521217 : Int) = (16513537 : Int) ∧ h_2 < 16513537 ∨ (16521217 : Int) = (16521217 : Int) ∧ h_2 < 16521217) ∧ l_2 < 18446744073709551616 ∧ (∀ M : Mem, 0 + 4 ≤ 4) ∧ R (.agg [.v (vu64 (↑(dvR 16521217 h_2 l_2) : Int)), .v (vu64 0), .v (vu64 0), .v (vu64 0)]) []) := by kernel_rfl
theorem bRe : Try.f74.body.isSome = true := by kernel_rfl
theorem nRep (a : Nat) : Nat.ble [SV.agg [.v (.int .u64 16513537), .v (.int .u64 0), .v (.int .u64 0), .v (.int .u64 0), .v (.int .i64 9), .v (.int .u64 16513537), .v (.int .u64 0), .v (.int .u64 0), .v (.int .u64 0), .v (.int .u64 0), .v (.int .u64 0)], .agg [.v (.int .u64 (limb a 0 : Nat)), .v (.int .u64 (limb a 1 : Nat)), .v (.int .u64 (limb a 2 : Nat)), .v (.int .u64 (limb a 3 : Nat))]].length Try.f74.ntmps = true := by kernel_rfl
theorem rep_ok (a : Nat) (ha : a < top) (Q : SV → List HO → Prop) (hq : Q (.agg [.v (.int .u64 ((fR 16513537 a : Nat) : Int)), .v (.int .u64 0), .v (.int .u64 0), .v (.int .u64 0)]) []) : FnOk Try.prog 74 [.agg [.v (.int .u64 16513537), .v (.int .u64 0), .v (.int .u64 0), .v (.int .u64 0), .v (.int .i64 9), .v (.int .u64 16513537), .v (.int .u64 0), .v (.int .u64 0), .v (.int .u64 0), .v (.int .u64 0), .v (.int .u64 0)], .agg [.v (.int .u64 (limb a 0 : Nat)), .v (.int .u64 (limb a 1 : Nat)), .v (.int .u64 (limb a 2 : Nat)), .v (.int .u64 (limb a 3 : Nat))]] [] Q := by
  have b0 := limb_lt a 0
  have b1 := limb_lt a 1
  have b2 := limb_lt a 2
  have b3 := limb_lt a 3
  refine fn_of_ok Try.func74 bRe ?_ ?_
  · exact nRep a
  refine run_sound hm 60 ((rdpS a _ _).mpr ⟨?_⟩)
  refine And.intro (fun _ => by omega) (And.intro (fun _ => by omega) (And.intro (fun _ => by omega) ?_))
  rw [or3 _ _ _ b1 b2 b3, cond_dec]
  refine ite_intro (fun hz => ?_) (fun hz => ?_)
  · refine And.intro (fun _ => by omega) (And.intro (fun _ => by omega) (And.intro (fun _ => by omega) ?_))
    rw [fR_eq] at hq
    rw [low_only ha hz, show Int.tmod (a : Int) (16513537 : Int) = ((a % 16513537 : Nat) : Int) from tmodNat a 16513537]
    exact hq
  · have d3 : dvR 16513537 0 (limb a 3) < 16513537 := by rw [dvR_eq]; exact Nat.mod_lt _ (by omega)
    have d2 : dvR 16513537 (dvR 16513537 0 (limb a 3)) (limb a 2) < 16513537 := by rw [dvR_eq]; exact Nat.mod_lt _ (by omega)
    have d1 : dvR 16513537 (dvR 16513537 (dvR 16513537 0 (limb a 3)) (limb a 2)) (limb a 1) < 16513537 := by rw [dvR_eq]; exact Nat.mod_lt _ (by omega)
    refine And.intro (fun _ => by omega) ⟨0, limb a 3, rfl, by omega, b3, ?_⟩
    refine And.intro (fun _ => by omega) ⟨dvR 16513537 0 (limb a 3), limb a 2, rfl, by omega, b2, ?_⟩
    refine And.intro (fun _ => by omega) ⟨dvR 16513537 (dvR 16513537 0 (limb a 3)) (limb a 2), limb a 1, rfl, by omega, b1, ?_⟩
    refine And.intro (fun _ => by omega) ⟨dvR 16513537 (dvR 16513537 (dvR 16513537 0 (limb a 3)) (limb a 2)) (limb a 1), limb a 0, rfl, by omega, b0, ?_⟩
    refine And.intro (fun _ => by omega) ?_
    rw [dv4 16513537 a ha]
    rw [fR_eq] at hq
    exact hq
theorem nReq (a : Nat) : Nat.ble [SV.agg [.v (.int .u64 16521217), .v (.int .u64 0), .v (.int .u64 0), .v (.int .u64 0), .v (.int .i64 11), .v (.int .u64 16521217), .v (.int .u64 0), .v (.int .u64 0), .v (.int .u64 0), .v (.int .u64 0), .v (.int .u64 0)], .agg [.v (.int .u64 (limb a 0 : Nat)), .v (.int .u64 (limb a 1 : Nat)), .v (.int .u64 (limb a 2 : Nat)), .v (.int .u64 (limb a 3 : Nat))]].length Try.f74.ntmps = true := by kernel_rfl
theorem req_ok (a : Nat) (ha : a < top) (Q : SV → List HO → Prop) (hq : Q (.agg [.v (.int .u64 ((fR 16521217 a : Nat) : Int)), .v (.int .u64 0), .v (.int .u64 0), .v (.int .u64 0)]) []) : FnOk Try.prog 74 [.agg [.v (.int .u64 16521217), .v (.int .u64 0), .v (.int .u64 0), .v (.int .u64 0), .v (.int .i64 11), .v (.int .u64 16521217), .v (.int .u64 0), .v (.int .u64 0), .v (.int .u64 0), .v (.int .u64 0), .v (.int .u64 0)], .agg [.v (.int .u64 (limb a 0 : Nat)), .v (.int .u64 (limb a 1 : Nat)), .v (.int .u64 (limb a 2 : Nat)), .v (.int .u64 (limb a 3 : Nat))]] [] Q := by
  have b0 := limb_lt a 0
  have b1 := limb_lt a 1
  have b2 := limb_lt a 2
  have b3 := limb_lt a 3
  refine fn_of_ok Try.func74 bRe ?_ ?_
  · exact nReq a
  refine run_sound hm 60 ((rdqS a _ _).mpr ⟨?_⟩)
  refine And.intro (fun _ => by omega) (And.intro (fun _ => by omega) (And.intro (fun _ => by omega) ?_))
  rw [or3 _ _ _ b1 b2 b3, cond_dec]
  refine ite_intro (fun hz => ?_) (fun hz => ?_)
  · refine And.intro (fun _ => by omega) (And.intro (fun _ => by omega) (And.intro (fun _ => by omega) ?_))
    rw [fR_eq] at hq
    rw [low_only ha hz, show Int.tmod (a : Int) (16521217 : Int) = ((a % 16521217 : Nat) : Int) from tmodNat a 16521217]
    exact hq
  · have d3 : dvR 16521217 0 (limb a 3) < 16521217 := by rw [dvR_eq]; exact Nat.mod_lt _ (by omega)
    have d2 : dvR 16521217 (dvR 16521217 0 (limb a 3)) (limb a 2) < 16521217 := by rw [dvR_eq]; exact Nat.mod_lt _ (by omega)
    have d1 : dvR 16521217 (dvR 16521217 (dvR 16521217 0 (limb a 3)) (limb a 2)) (limb a 1) < 16521217 := by rw [dvR_eq]; exact Nat.mod_lt _ (by omega)
    refine And.intro (fun _ => by omega) ⟨0, limb a 3, rfl, by omega, b3, ?_⟩
    refine And.intro (fun _ => by omega) ⟨dvR 16521217 0 (limb a 3), limb a 2, rfl, by omega, b2, ?_⟩
    refine And.intro (fun _ => by omega) ⟨dvR 16521217 (dvR 16521217 0 (limb a 3)) (limb a 2), limb a 1, rfl, by omega, b1, ?_⟩
    refine And.intro (fun _ => by omega) ⟨dvR 16521217 (dvR 16521217 (dvR 16521217 0 (limb a 3)) (limb a 2)) (limb a 1), limb a 0, rfl, by omega, b0, ?_⟩
    refine And.intro (fun _ => by omega) ?_
    rw [dv4 16521217 a ha]
    rw [fR_eq] at hq
    exact hq
end Go.Proofs.Ytlmjdcbhpffanaa
/- The field's reduce, at all four moduli. -/
namespace Go.Pl
open Go.Sx
inductive isNm : List Int → Nat → Prop where
  | p : isNm [16513537, 0, 0, 0, 9, 16513537, 0, 0, 0, 0, 0] 16513537
  | q : isNm [16521217, 0, 0, 0, 11, 16521217, 0, 0, 0, 0, 0] 16521217
  | r : isNm [11037532056220336129, 2469829653914515739, 0, 4611686018427387904, 32, 0, 11037532056220336127, 10122100416058490895, 15551789045973377255, 8617542898466512152, 679271340751763220] 28948022309329048855892746252171976963363056481941560715954676764349967630337
  | t : isNm [10108024940646105089, 2469829653919213789, 0, 4611686018427387904, 32, 0, 10108024940646105087, 18200867980676431887, 7474641938123724515, 9200329640471491984, 679271340771891881] 28948022309329048855892746252171976963363056481941647379679742748393362948097
structure reC (ns ds : List Int) (k : Nat → Nat → Prop) : Prop where
  h : ∃ P a : Nat, isNm ns P ∧ ds = eI a ∧ a < top ∧ k P a
theorem reC_mk {ns : List Int} {k : Nat → Nat → Prop} (P a : Nat) (hn : isNm ns P) (ha : a < top) (h : k P a) : reC ns (eI a) k := ⟨⟨P, a, hn, rfl, ha, h⟩⟩
theorem isNm_lt {ns : List Int} {P : Nat} (h : isNm ns P) : 2 < P ∧ 2 * P < top := by
  simp only [top]
  cases h <;> omega
theorem wsub_limb (a b : Nat) (h : b ≤ a) (i : Nat) (hi : i < 4) : limb (wsub a b) i = limb (a - b) i := by
  have : wsub a b = (a - b) + top * 1 := by
    rw [wsub, Nat.mul_one]; omega
  rw [this, limb_top _ _ _ hi]
theorem nv_eS {a b c d n : Nat} (h : n = nv a b c d) (ha : a < 18446744073709551616) (hb : b < 18446744073709551616) (hc : c < 18446744073709551616) (hd : d < 18446744073709551616) : limb n 0 = a ∧ limb n 1 = b ∧ limb n 2 = c ∧ limb n 3 = d := by
  rw [h]; exact limb_nv ha hb hc hd
theorem limbP2 : limb 28948022309329048855892746252171976963363056481941560715954676764349967630337 0 = 11037532056220336129 ∧ limb 28948022309329048855892746252171976963363056481941560715954676764349967630337 1 = 2469829653914515739 ∧ limb 28948022309329048855892746252171976963363056481941560715954676764349967630337 2 = 0 ∧ limb 28948022309329048855892746252171976963363056481941560715954676764349967630337 3 = 4611686018427387904 := nv_eS (by simp only [nv]) (by omega) (by omega) (by omega) (by omega)
theorem limbP3 : limb 28948022309329048855892746252171976963363056481941647379679742748393362948097 0 = 10108024940646105089 ∧ limb 28948022309329048855892746252171976963363056481941647379679742748393362948097 1 = 2469829653919213789 ∧ limb 28948022309329048855892746252171976963363056481941647379679742748393362948097 2 = 0 ∧ limb 28948022309329048855892746252171976963363056481941647379679742748393362948097 3 = 4611686018427387904 := nv_eS (by simp only [nv]) (by omega) (by omega) (by omega) (by omega)
end Go.Pl
namespace Go.Proofs.Ytlmjdcbhpffanaa
open Go.Sx Go.Pl
set_option linter.unusedVariables false
set_option maxRecDepth 100000
theorem fR_lt (p a : Nat) (hp : 0 < p) : fR p a < p := by rw [fR_eq]; exact Nat.mod_lt _ hp
theorem rgS (P : Nat) (ad ng q0 q1 q2 q3 : Int) (a : Nat) (K : List It → St → Prop) (R : SV → List HO → Prop) : W (xwp Try.prog X K19 [] 60 (fxOf Try.f74 [] [⟨[0,1,1], [2,3,4], []⟩]) [] [.at []] ⟨argsS 0 [.agg [.v (.int .u64 (limb P 0 : Nat)), .v (.int .u64 (limb P 1 : Nat)), .v (.int .u64 (limb P 2 : Nat)), .v (.int .u64 (limb P 3 : Nat)), .v (.int .i64 ad), .v (.int .u64 0), .v (.int .u64 ng), .v (.int .u64 q0), .v (.int .u64 q1), .v (.int .u64 q2), .v (.int .u64 q3)], .agg [.v (.int .u64 (limb a 0 : Nat)), .v (.int .u64 (limb a 1 : Nat)), .v (.int .u64 (limb a 2 : Nat)), .v (.int .u64 (limb a 3 : Nat))]], []⟩ K R) = W (K [.at [0,1,1], .blk 2] (St.mk [(2, .p 0 0), (3, .p 1 0), (4, .p 2 0)] [.cells [.v (vu64 (↑(limb P 0) : Int)), .v (vu64 (↑(limb P 1) : Int)), .v (vu64 (↑(limb P 2) : Int)), .v (vu64 (↑(limb P 3) : Int)), .v (vi64 ad), .v (vu64 0), .v (vu64 ng), .v (vu64 q0), .v (vu64 q1), .v (vu64 q2), .v (vu64 q3)] 121, .cells [.v (vu64 (↑(limb a 0) : Int)), .v (vu64 (↑(limb a 1) : Int)), .v (vu64 (↑(limb a 2) : Int)), .v (vu64 (↑(limb a 3) : Int))] 56, .cells [.v (vu64 0), .v (vu64 0), .v (vu64 0), .v (vu64 0)] 56])) := by kernel_rfl
theorem rgL (P : Nat) (ad ng q0 q1 q2 q3 : Int) (a : Nat) (d0 d1 d2 d3 : Int) (M : Nat) (K : List It → St → Prop) (R : SV → List HO → Prop) : W (xwp Try.prog X K19 [] 60 (fxOf Try.f74 [] [⟨[0,1,1], [2,3,4], []⟩]) [] (.at [0,0,1,1] :: .rnd [0,0,1,1] M :: [.blk 2]) ⟨[(2, .p 0 0), (3, .p 1 0), (4, .p 2 0)], [.cells [.v (.int .u64 (limb P 0 : Nat)), .v (.int .u64 (limb P 1 : Nat)), .v (.int .u64 (limb P 2 : Nat)), .v (.int .u64 (limb P 3 : Nat)), .v (.int .i64 ad), .v (.int .u64 0), .v (.int .u64 ng), .v (.int .u64 q0), .v (.int .u64 q1), .v (.int .u64 q2), .v (.int .u64 q3)] 121, .cells [.v (.int .u64 (limb a 0 : Nat)), .v (.int .u64 (limb a 1 : Nat)), .v (.int .u64 (limb a 2 : Nat)), .v (.int .u64 (limb a 3 : Nat))] 56, .cells [.v (.int .u64 d0), .v (.int .u64 d1), .v (.int .u64 d2), .v (.int .u64 d3)] 56]⟩ K R) = W (c2C (eI a) (eI P) fun (a_1 b : Nat) => (∀ M : Mem, 0 + 4 ≤ 4) ∧ bif decide (a_1 < b) then (∀ M : Mem, 0 + 4 ≤ 4) ∧ R ((eS a)) [] else (∀ M : Mem, 0 + 4 ≤ 4) ∧ K [.rnd [0,0,1,1] M, .blk 2] (St.mk [(2, .p 0 0), (3, .p 1 0), (4, .p 2 0)] [.cells [.v (vu64 (↑(limb P 0) : Int)), .v (vu64 (↑(limb P 1) : Int)), .v (vu64 (↑(limb P 2) : Int)), .v (vu64 (↑(limb P 3) : Int)), .v (vi64 ad), .v (vu64 0), .v (vu64 ng), .v (vu64 q0), .v (vu64 q1), .v (vu64 q2), .v (vu64 q3)] 121, .cells [.v (vu64 (↑(limb (wsub a_1 b) 0) : Int)), .v (vu64 (↑(limb (wsub a_1 b) 1) : Int)), .v (vu64 (↑(limb (wsub a_1 b) 2) : Int)), .v (vu64 (↑(limb (wsub a_1 b) 3) : Int))] 56, .cells [.v (vu64 d0), .v (vu64 d1), .v (vu64 d2), .v (vu64 d3)] 56])) := by kernel_rfl
theorem rg_loop (P : Nat) (ad ng q0 q1 q2 q3 : Int) (hP : P < top) (Q : SV → List HO → Prop) : ∀ (n a : Nat) (d0 d1 d2 d3 : Int), a < top → a < (n + 1) * P → Q (eS (fR P a)) [] →
    FOk Try.prog Try.f74 Q (.rnd [0,0,1,1] (n + 1) :: [.blk 2]) ⟨[(2, .p 0 0), (3, .p 1 0), (4, .p 2 0)], [.cells [.v (.int .u64 (limb P 0 : Nat)), .v (.int .u64 (limb P 1 : Nat)), .v (.int .u64 (limb P 2 : Nat)), .v (.int .u64 (limb P 3 : Nat)), .v (.int .i64 ad), .v (.int .u64 0), .v (.int .u64 ng), .v (.int .u64 q0), .v (.int .u64 q1), .v (.int .u64 q2), .v (.int .u64 q3)] 121, .cells [.v (.int .u64 (limb a 0 : Nat)), .v (.int .u64 (limb a 1 : Nat)), .v (.int .u64 (limb a 2 : Nat)), .v (.int .u64 (limb a 3 : Nat))] 56, .cells [.v (.int .u64 d0), .v (.int .u64 d1), .v (.int .u64 d2), .v (.int .u64 d3)] 56]⟩
  | 0, a, d0, d1, d2, d3, ha, hn, hq => by
    refine FOk.rnd (run_sound hm 60 ((rgL P ad ng q0 q1 q2 q3 a d0 d1 d2 d3 0 _ _).mpr ⟨?_⟩))
    refine c2C_mk a P ha hP (And.intro (fun _ => by omega) ?_)
    rw [cond_dec, if_pos (by omega)]
    rw [fR_eq, Nat.mod_eq_of_lt (by omega)] at hq
    exact And.intro (fun _ => by omega) hq
  | n + 1, a, d0, d1, d2, d3, ha, hn, hq => by
    refine FOk.rnd (run_sound hm 60 ((rgL P ad ng q0 q1 q2 q3 a d0 d1 d2 d3 (n + 1) _ _).mpr ⟨?_⟩))
    refine c2C_mk a P ha hP (And.intro (fun _ => by omega) ?_)
    rw [cond_dec]
    refine ite_intro (fun h => ?_) (fun h => ?_)
    · rw [fR_eq, Nat.mod_eq_of_lt h] at hq
      exact And.intro (fun _ => by omega) hq
    · refine And.intro (fun _ => by omega) ?_
      rw [wsub_limb a P (by omega) 0 (by omega), wsub_limb a P (by omega) 1 (by omega), wsub_limb a P (by omega) 2 (by omega), wsub_limb a P (by omega) 3 (by omega)]
      refine rg_loop P ad ng q0 q1 q2 q3 hP Q n (a - P) d0 d1 d2 d3 (by omega) ?_ ?_
      · rw [Nat.add_mul (n + 1) 1 P, Nat.one_mul] at hn; omega
      · rw [fR_eq, ← Nat.mod_eq_sub_mod (by omega), ← fR_eq]; exact hq
theorem nReg (P : Nat) (ad ng q0 q1 q2 q3 : Int) (a : Nat) : Nat.ble [SV.agg [.v (.int .u64 (limb P 0 : Nat)), .v (.int .u64 (limb P 1 : Nat)), .v (.int .u64 (limb P 2 : Nat)), .v (.int .u64 (limb P 3 : Nat)), .v (.int .i64 ad), .v (.int .u64 0), .v (.int .u64 ng), .v (.int .u64 q0), .v (.int .u64 q1), .v (.int .u64 q2), .v (.int .u64 q3)], eS a].length Try.f74.ntmps = true := by kernel_rfl
theorem reg_ok (P : Nat) (ad ng q0 q1 q2 q3 : Int) (hP : P < top) (h4 : top ≤ 4 * P) (a : Nat) (ha : a < top) (Q : SV → List HO → Prop) (hq : Q (eS (fR P a)) []) : FnOk Try.prog 74 [.agg [.v (.int .u64 (limb P 0 : Nat)), .v (.int .u64 (limb P 1 : Nat)), .v (.int .u64 (limb P 2 : Nat)), .v (.int .u64 (limb P 3 : Nat)), .v (.int .i64 ad), .v (.int .u64 0), .v (.int .u64 ng), .v (.int .u64 q0), .v (.int .u64 q1), .v (.int .u64 q2), .v (.int .u64 q3)], eS a] [] Q := by
  refine fn_of_ok Try.func74 bRe ?_ ?_
  · exact nReg P ad ng q0 q1 q2 q3 a
  refine run_sound hm 60 ((rgS P ad ng q0 q1 q2 q3 a _ _).mpr ⟨?_⟩)
  exact FOk.loop 4 (by kernel_rfl) (rg_loop P ad ng q0 q1 q2 q3 hP Q 3 a 0 0 0 0 ha (by omega) hq)
noncomputable def gRe : List SV → List HO → Option ((SV → List HO → Prop) → Prop)
  | [.agg [.v (.int .u64 p0), .v (.int .u64 p1), .v (.int .u64 p2), .v (.int .u64 p3), .v (.int .i64 ad), .v (.int .u64 sm), .v (.int .u64 ng), .v (.int .u64 q0), .v (.int .u64 q1), .v (.int .u64 q2), .v (.int .u64 q3)], .agg [.v (.int .u64 a0), .v (.int .u64 a1), .v (.int .u64 a2), .v (.int .u64 a3)]], [] => some fun Q => reC [p0, p1, p2, p3, ad, sm, ng, q0, q1, q2, q3] [a0, a1, a2, a3] fun P a => Q (eS (fR P a)) []
  | _, _ => none
theorem gRe_ok (args : List SV) (h : List HO) (tr : (SV → List HO → Prop) → Prop) (Q : SV → List HO → Prop) (hc : gRe args h = some tr) (ht : tr Q) : FnOk Try.prog 74 args h Q := by
  unfold gRe at hc
  split at hc
  · rename_i p0 p1 p2 p3 ad sm ng q0 q1 q2 q3 a0 a1 a2 a3
    simp only [Option.some.injEq] at hc
    subst hc
    obtain ⟨P, a, hn, e1, ha, hq⟩ := ht.h
    simp only [List.cons.injEq, and_true] at e1
    obtain ⟨rfl, rfl, rfl, rfl⟩ := e1
    cases hn
    · obtain ⟨l0, l1, l2, l3⟩ := limb_small (fR 16513537 a) (by have := fR_lt 16513537 a (by omega); omega)
      rw [eS, l0, l1, l2, l3] at hq
      exact rep_ok a ha Q hq
    · obtain ⟨l0, l1, l2, l3⟩ := limb_small (fR 16521217 a) (by have := fR_lt 16521217 a (by omega); omega)
      rw [eS, l0, l1, l2, l3] at hq
      exact req_ok a ha Q hq
    · have := reg_ok 28948022309329048855892746252171976963363056481941560715954676764349967630337 32 11037532056220336127 10122100416058490895 15551789045973377255 8617542898466512152 679271340751763220 (by simp only [top]; omega) (by simp only [top]; omega) a ha Q hq
      rw [limbP2.1, limbP2.2.1, limbP2.2.2.1, limbP2.2.2.2] at this
      exact this
    · have := reg_ok 28948022309329048855892746252171976963363056481941647379679742748393362948097 32 10108024940646105087 18200867980676431887 7474641938123724515 9200329640471491984 679271340771891881 (by simp only [top]; omega) (by simp only [top]; omega) a ha Q hq
      rw [limbP3.1, limbP3.2.1, limbP3.2.2.1, limbP3.2.2.2] at this
      exact this
  · cases hc
noncomputable def K20 : Con Try.prog := K19.add 74 gRe gRe_ok
end Go.Proofs.Ytlmjdcbhpffanaa
/- Sums and what is below nought, in the fields. -/
namespace Go.Pl
open Go.Sx
structure reC2 (ns ds es : List Int) (k : Nat → Nat → Nat → Prop) : Prop where
  h : ∃ P a b : Nat, isNm ns P ∧ ds = eI a ∧ es = eI b ∧ a < top ∧ b < top ∧ k P a b
theorem reC2_mk {ns : List Int} {k : Nat → Nat → Nat → Prop} (P a b : Nat) (hn : isNm ns P) (ha : a < top) (hb : b < top) (h : k P a b) : reC2 ns (eI a) (eI b) k := ⟨⟨P, a, b, hn, rfl, rfl, ha, hb, h⟩⟩
noncomputable def fA (P a b : Nat) : Nat := hide ((a + b) % P)
theorem fA_eq (P a b : Nat) : fA P a b = (a + b) % P := hide_eq _
noncomputable def fN (P a : Nat) : Nat := hide ((P - a % P) % P)
theorem fN_eq (P a : Nat) : fN P a = (P - a % P) % P := hide_eq _
theorem fR_lt' (p a : Nat) (hp : 0 < p) : fR p a < p := by rw [fR_eq]; exact Nat.mod_lt _ hp
theorem fR_top {P : Nat} (hP : 2 < P ∧ 2 * P < top) (a : Nat) : fR P a < top ∧ 2 * fR P a < top := by
  have := fR_lt' P a (by omega)
  omega
theorem fA_lt {P : Nat} (hP : 2 < P) (a b : Nat) : fA P a b < P := by rw [fA_eq]; exact Nat.mod_lt _ (by omega)
theorem fN_lt {P : Nat} (hP : 2 < P) (a : Nat) : fN P a < P := by rw [fN_eq]; exact Nat.mod_lt _ (by omega)
def fP (s : Int) : Nat := if s = 0 then 16513537 else if s = 1 then 16521217 else if s = 2 then 28948022309329048855892746252171976963363056481941560715954676764349967630337 else if s = 3 then 28948022309329048855892746252171976963363056481941647379679742748393362948097 else 0
noncomputable def fAd (s : Int) (a b : Nat) : Nat := if fP s = 0 then 0 else fA (fP s) a b
noncomputable def fNg (s : Int) (a : Nat) : Nat := if fP s = 0 then 0 else fN (fP s) a
theorem fP_no {s : Int} (h0 : ¬ s = 0) (h1 : ¬ s = 1) (h2 : ¬ s = 2) (h3 : ¬ s = 3) : fP s = 0 := by rw [fP, if_neg h0, if_neg h1, if_neg h2, if_neg h3]
theorem limb_zero (i : Nat) : limb 0 i = 0 := by simp [limb, hide_eq]
end Go.Pl
namespace Go.Proofs.Ytlmjdcbhpffanaa
open Go.Sx Go.Pl
set_option linter.unusedVariables false
set_option maxRecDepth 100000
theorem naS (p0 p1 p2 p3 ad sm ng q0 q1 q2 q3 : Int) (a b : Nat) (K : List It → St → Prop) (R : SV → List HO → Prop) : W (xwp Try.prog X K20 [] 60 (fxOf Try.f54 [] []) [] [.at []] ⟨argsS 0 [.agg [.v (.int .u64 p0), .v (.int .u64 p1), .v (.int .u64 p2), .v (.int .u64 p3), .v (.int .i64 ad), .v (.int .u64 sm), .v (.int .u64 ng), .v (.int .u64 q0), .v (.int .u64 q1), .v (.int .u64 q2), .v (.int .u64 q3)], eS a, eS b], []⟩ K R) = W ((reC [p0, p1, p2, p3, ad, sm, ng, q0, q1, q2, q3] (eI a) fun (P a : Nat) => (reC [p0, p1, p2, p3, ad, sm, ng, q0, q1, q2, q3] (eI b) fun (P_1 a_1 : Nat) => (c2C (eI (fR P a)) (eI (fR P_1 a_1)) fun (a b : Nat) => (∀ M : Mem, 0 + 4 ≤ 4) ∧ reC [p0, p1, p2, p3, ad, sm, ng, q0, q1, q2, q3] (eI (wadd a b)) fun (P a : Nat) => (∀ M : Mem, 0 + 4 ≤ 4) ∧ R ((eS (fR P a))) []) ∧ c2C (eI (fR P a)) (eI (fR P_1 a_1)) fun (a b : Nat) => (∀ M : Mem, 0 + 4 ≤ 4) ∧ reC [p0, p1, p2, p3, ad, sm, ng, q0, q1, q2, q3] (eI (wadd a b)) fun (P a : Nat) => (∀ M : Mem, 0 + 4 ≤ 4) ∧ R ((eS (fR P a))) []) ∧ reC [p0, p1, p2, p3, ad, sm, ng, q0, q1, q2, q3] (eI b) fun (P_1 a_1 : Nat) => c2C (eI (fR P a)) (eI (fR P_1 a_1)) fun (a b : Nat) => (∀ M : Mem, 0 + 4 ≤ 4) ∧ reC [p0, p1, p2, p3, ad, sm, ng, q0, q1, q2, q3] (eI (wadd a b)) fun (P a : Nat) => (∀ M : Mem, 0 + 4 ≤ 4) ∧ R ((eS (fR P a))) []) ∧ reC [p0, p1, p2, p3, ad, sm, ng, q0, q1, q2, q3] (eI a) fun (P a : Nat) => reC [p0, p1, p2, p3, ad, sm, ng, q0, q1, q2, q3] (eI b) fun (P_1 a_1 : Nat) => c2C (eI (fR P a)) (eI (fR P_1 a_1)) fun (a b : Nat) => (∀ M : Mem, 0 + 4 ≤ 4) ∧ reC [p0, p1, p2, p3, ad, sm, ng, q0, q1, q2, q3] (eI (wadd a b)) fun (P a : Nat) => (∀ M : Mem, 0 + 4 ≤ 4) ∧ R ((eS (fR P a))) []) := by kernel_rfl
theorem nnS (p0 p1 p2 p3 ad sm ng q0 q1 q2 q3 : Int) (a : Nat) (K : List It → St → Prop) (R : SV → List HO → Prop) : W (xwp Try.prog X K20 [] 60 (fxOf Try.f131 [] []) [] [.at []] ⟨argsS 0 [.agg [.v (.int .u64 p0), .v (.int .u64 p1), .v (.int .u64 p2), .v (.int .u64 p3), .v (.int .i64 ad), .v (.int .u64 sm), .v (.int .u64 ng), .v (.int .u64 q0), .v (.int .u64 q1), .v (.int .u64 q2), .v (.int .u64 q3)], eS a], []⟩ K R) = W ((reC [p0, p1, p2, p3, ad, sm, ng, q0, q1, q2, q3] (eI a) fun (P a : Nat) => (c2C [p0, p1, p2, p3] (eI (fR P a)) fun (a b : Nat) => (∀ M : Mem, 0 + 4 ≤ 4) ∧ reC [p0, p1, p2, p3, ad, sm, ng, q0, q1, q2, q3] (eI (wsub a b)) fun (P a : Nat) => (∀ M : Mem, 0 + 4 ≤ 4) ∧ R ((eS (fR P a))) []) ∧ c2C [p0, p1, p2, p3] (eI (fR P a)) fun (a b : Nat) => (∀ M : Mem, 0 + 4 ≤ 4) ∧ reC [p0, p1, p2, p3, ad, sm, ng, q0, q1, q2, q3] (eI (wsub a b)) fun (P a : Nat) => (∀ M : Mem, 0 + 4 ≤ 4) ∧ R ((eS (fR P a))) []) ∧ reC [p0, p1, p2, p3, ad, sm, ng, q0, q1, q2, q3] (eI a) fun (P a : Nat) => c2C [p0, p1, p2, p3] (eI (fR P a)) fun (a b : Nat) => (∀ M : Mem, 0 + 4 ≤ 4) ∧ reC [p0, p1, p2, p3, ad, sm, ng, q0, q1, q2, q3] (eI (wsub a b)) fun (P a : Nat) => (∀ M : Mem, 0 + 4 ≤ 4) ∧ R ((eS (fR P a))) []) := by kernel_rfl
theorem bNa : Try.f54.body.isSome = true := by kernel_rfl
theorem nNa (p0 p1 p2 p3 ad sm ng q0 q1 q2 q3 : Int) (a b : Nat) : Nat.ble [SV.agg [.v (.int .u64 p0), .v (.int .u64 p1), .v (.int .u64 p2), .v (.int .u64 p3), .v (.int .i64 ad), .v (.int .u64 sm), .v (.int .u64 ng), .v (.int .u64 q0), .v (.int .u64 q1), .v (.int .u64 q2), .v (.int .u64 q3)], eS a, eS b].length Try.f54.ntmps = true := by kernel_rfl
theorem na_end (P a b : Nat) (hP : 2 < P ∧ 2 * P < top) : fR P (wadd (fR P a) (fR P b)) = fA P a b ∧ wadd (fR P a) (fR P b) < top := by
  have h1 := fR_lt P a (by omega)
  have h2 := fR_lt P b (by omega)
  refine ⟨?_, by rw [wadd]; omega⟩
  rw [fA_eq, fR_eq, wadd, fR_eq, fR_eq, ← Nat.add_mod]
theorem na_ok (p0 p1 p2 p3 ad sm ng q0 q1 q2 q3 : Int) (P a b : Nat) (hn : isNm [p0, p1, p2, p3, ad, sm, ng, q0, q1, q2, q3] P) (ha : a < top) (hb : b < top) (Q : SV → List HO → Prop) (hq : Q (eS (fA P a b)) []) : FnOk Try.prog 54 [.agg [.v (.int .u64 p0), .v (.int .u64 p1), .v (.int .u64 p2), .v (.int .u64 p3), .v (.int .i64 ad), .v (.int .u64 sm), .v (.int .u64 ng), .v (.int .u64 q0), .v (.int .u64 q1), .v (.int .u64 q2), .v (.int .u64 q3)], eS a, eS b] [] Q := by
  have hP := isNm_lt hn
  have ta := (fR_top hP a).1
  have tb := (fR_top hP b).1
  obtain ⟨e1, e2⟩ := na_end P a b hP
  refine fn_of_ok Try.func54 bNa ?_ ?_
  · exact nNa p0 p1 p2 p3 ad sm ng q0 q1 q2 q3 a b
  refine run_sound hm 60 ((naS p0 p1 p2 p3 ad sm ng q0 q1 q2 q3 a b _ _).mpr ⟨?_⟩)
  rw [← e1] at hq
  have q : c2C (eI (fR P a)) (eI (fR P b)) fun (a b : Nat) => (∀ (M : Mem), 0 + 4 ≤ 4) ∧ reC [p0, p1, p2, p3, ad, sm, ng, q0, q1, q2, q3] (eI (wadd a b)) fun (P a : Nat) => (∀ (M : Mem), 0 + 4 ≤ 4) ∧ Q ((eS (fR P a))) [] :=
    c2C_mk _ _ ta tb ⟨fun _ => by omega, reC_mk P _ hn e2 ⟨fun _ => by omega, hq⟩⟩
  exact And.intro (reC_mk P a hn ha (And.intro (reC_mk P b hn hb (And.intro q q)) (reC_mk P b hn hb q))) (reC_mk P a hn ha (reC_mk P b hn hb q))
noncomputable def gNa : List SV → List HO → Option ((SV → List HO → Prop) → Prop)
  | [.agg [.v (.int .u64 p0), .v (.int .u64 p1), .v (.int .u64 p2), .v (.int .u64 p3), .v (.int .i64 ad), .v (.int .u64 sm), .v (.int .u64 ng), .v (.int .u64 q0), .v (.int .u64 q1), .v (.int .u64 q2), .v (.int .u64 q3)], .agg [.v (.int .u64 a0), .v (.int .u64 a1), .v (.int .u64 a2), .v (.int .u64 a3)], .agg [.v (.int .u64 b0), .v (.int .u64 b1), .v (.int .u64 b2), .v (.int .u64 b3)]], [] => some fun Q => reC2 [p0, p1, p2, p3, ad, sm, ng, q0, q1, q2, q3] [a0, a1, a2, a3] [b0, b1, b2, b3] fun P a b => Q (eS (fA P a b)) []
  | _, _ => none
theorem gNa_ok (args : List SV) (h : List HO) (tr : (SV → List HO → Prop) → Prop) (Q : SV → List HO → Prop) (hc : gNa args h = some tr) (ht : tr Q) : FnOk Try.prog 54 args h Q := by
  unfold gNa at hc
  split at hc
  · rename_i p0 p1 p2 p3 ad sm ng q0 q1 q2 q3 a0 a1 a2 a3 b0 b1 b2 b3
    simp only [Option.some.injEq] at hc
    subst hc
    obtain ⟨P, a, b, hn, e1, e2, ha, hb, hq⟩ := ht.h
    simp only [List.cons.injEq, and_true] at e1 e2
    obtain ⟨rfl, rfl, rfl, rfl⟩ := e1
    obtain ⟨rfl, rfl, rfl, rfl⟩ := e2
    exact na_ok p0 p1 p2 p3 ad sm ng q0 q1 q2 q3 P a b hn ha hb Q hq
  · cases hc

theorem bNn : Try.f131.body.isSome = true := by kernel_rfl
theorem nNn (p0 p1 p2 p3 ad sm ng q0 q1 q2 q3 : Int) (a : Nat) : Nat.ble [SV.agg [.v (.int .u64 p0), .v (.int .u64 p1), .v (.int .u64 p2), .v (.int .u64 p3), .v (.int .i64 ad), .v (.int .u64 sm), .v (.int .u64 ng), .v (.int .u64 q0), .v (.int .u64 q1), .v (.int .u64 q2), .v (.int .u64 q3)], eS a].length Try.f131.ntmps = true := by kernel_rfl
theorem isNm_eI (p0 p1 p2 p3 ad sm ng q0 q1 q2 q3 : Int) {P : Nat} (hn : isNm [p0, p1, p2, p3, ad, sm, ng, q0, q1, q2, q3] P) : [p0, p1, p2, p3] = eI P := by
  cases hn
  · rw [eI, (limb_small 16513537 (by omega)).1, (limb_small 16513537 (by omega)).2.1, (limb_small 16513537 (by omega)).2.2.1, (limb_small 16513537 (by omega)).2.2.2]; rfl
  · rw [eI, (limb_small 16521217 (by omega)).1, (limb_small 16521217 (by omega)).2.1, (limb_small 16521217 (by omega)).2.2.1, (limb_small 16521217 (by omega)).2.2.2]; rfl
  · rw [eI, limbP2.1, limbP2.2.1, limbP2.2.2.1, limbP2.2.2.2]; rfl
  · rw [eI, limbP3.1, limbP3.2.1, limbP3.2.2.1, limbP3.2.2.2]; rfl
theorem eI_wsub (a b : Nat) (h : b ≤ a) : eI (wsub a b) = eI (a - b) := by
  rw [eI, wsub_limb a b h 0 (by omega), wsub_limb a b h 1 (by omega), wsub_limb a b h 2 (by omega), wsub_limb a b h 3 (by omega)]
theorem nn_ok (p0 p1 p2 p3 ad sm ng q0 q1 q2 q3 : Int) (P a : Nat) (hn : isNm [p0, p1, p2, p3, ad, sm, ng, q0, q1, q2, q3] P) (ha : a < top) (Q : SV → List HO → Prop) (hq : Q (eS (fN P a)) []) : FnOk Try.prog 131 [.agg [.v (.int .u64 p0), .v (.int .u64 p1), .v (.int .u64 p2), .v (.int .u64 p3), .v (.int .i64 ad), .v (.int .u64 sm), .v (.int .u64 ng), .v (.int .u64 q0), .v (.int .u64 q1), .v (.int .u64 q2), .v (.int .u64 q3)], eS a] [] Q := by
  have hP := isNm_lt hn
  have ta := (fR_top hP a).1
  have la := fR_lt P a (by omega)
  have tp : P < top := by omega
  refine fn_of_ok Try.func131 bNn ?_ ?_
  · exact nNn p0 p1 p2 p3 ad sm ng q0 q1 q2 q3 a
  refine run_sound hm 60 ((nnS p0 p1 p2 p3 ad sm ng q0 q1 q2 q3 a _ _).mpr ⟨?_⟩)
  have e1 : fR P (P - fR P a) = fN P a := by rw [fN_eq, fR_eq, fR_eq]
  rw [← e1] at hq
  have q : c2C [p0, p1, p2, p3] (eI (fR P a)) fun (a b : Nat) => (∀ (M : Mem), 0 + 4 ≤ 4) ∧ reC [p0, p1, p2, p3, ad, sm, ng, q0, q1, q2, q3] (eI (wsub a b)) fun (P a : Nat) => (∀ (M : Mem), 0 + 4 ≤ 4) ∧ Q ((eS (fR P a))) [] := by
    rw [isNm_eI p0 p1 p2 p3 ad sm ng q0 q1 q2 q3 hn]
    refine c2C_mk _ _ tp ta ⟨fun _ => by omega, ?_⟩
    rw [eI_wsub _ _ (by omega)]
    exact reC_mk P _ hn (by omega) ⟨fun _ => by omega, hq⟩
  exact And.intro (reC_mk P a hn ha (And.intro q q)) (reC_mk P a hn ha q)
noncomputable def gNn : List SV → List HO → Option ((SV → List HO → Prop) → Prop)
  | [.agg [.v (.int .u64 p0), .v (.int .u64 p1), .v (.int .u64 p2), .v (.int .u64 p3), .v (.int .i64 ad), .v (.int .u64 sm), .v (.int .u64 ng), .v (.int .u64 q0), .v (.int .u64 q1), .v (.int .u64 q2), .v (.int .u64 q3)], .agg [.v (.int .u64 a0), .v (.int .u64 a1), .v (.int .u64 a2), .v (.int .u64 a3)]], [] => some fun Q => reC [p0, p1, p2, p3, ad, sm, ng, q0, q1, q2, q3] [a0, a1, a2, a3] fun P a => Q (eS (fN P a)) []
  | _, _ => none
theorem gNn_ok (args : List SV) (h : List HO) (tr : (SV → List HO → Prop) → Prop) (Q : SV → List HO → Prop) (hc : gNn args h = some tr) (ht : tr Q) : FnOk Try.prog 131 args h Q := by
  unfold gNn at hc
  split at hc
  · rename_i p0 p1 p2 p3 ad sm ng q0 q1 q2 q3 a0 a1 a2 a3
    simp only [Option.some.injEq] at hc
    subst hc
    obtain ⟨P, a, hn, e1, ha, hq⟩ := ht.h
    simp only [List.cons.injEq, and_true] at e1
    obtain ⟨rfl, rfl, rfl, rfl⟩ := e1
    exact nn_ok p0 p1 p2 p3 ad sm ng q0 q1 q2 q3 P a hn ha Q hq
  · cases hc

noncomputable def K22 : Con Try.prog := (K20.add 54 gNa gNa_ok).add 131 gNn gNn_ok
end Go.Proofs.Ytlmjdcbhpffanaa
/- The fields' sums, what is below nought, the moduli. -/
namespace Go.Pl
open Go.Sx
def fE (s : Int) : Int := if fP s = 0 then 20 else 0
theorem eS_zero : eS 0 = .agg [.v (.int .u64 0), .v (.int .u64 0), .v (.int .u64 0), .v (.int .u64 0)] := by
  simp only [eS, limb_zero]; rfl
theorem eI_zero : eI 0 = [0, 0, 0, 0] := by simp only [eI, limb_zero]; rfl
theorem top0 : 0 < top := by simp only [top]; omega
end Go.Pl
namespace Go.Proofs.Ytlmjdcbhpffanaa
open Go.Sx Go.Pl
set_option linter.unusedVariables false
set_option maxRecDepth 100000
theorem faS (s : Int) (a b : Nat) (K : List It → St → Prop) (R : SV → List HO → Prop) : W (xwp Try.prog X K22 [(53, [])] 60 (fxOf Try.f28 [] []) [] [.at []] ⟨argsS 0 [.v (.int .i64 s), eS a, eS b], []⟩ K R) = W (bif s == (0 : Int) then (∀ M : Mem, 11 ≤ 11) ∧ (∀ M : Mem, 11 ≤ 11) ∧ reC2 [(16513537 : Int), (0 : Int), (0 : Int), (0 : Int), (9 : Int), (16513537 : Int), (0 : Int), (0 : Int), (0 : Int), (0 : Int), (0 : Int)] (eI a) (eI b) fun (P a b : Nat) => (∀ M : Mem, 0 + 4 ≤ 4) ∧ R ((eS (fA P a b))) [] else bif s == (1 : Int) then (∀ M : Mem, 11 ≤ 11) ∧ (∀ M : Mem, 11 ≤ 11) ∧ reC2 [(16521217 : Int), (0 : Int), (0 : Int), (0 : Int), (11 : Int), (16521217 : Int), (0 : Int), (0 : Int), (0 : Int), (0 : Int), (0 : Int)] (eI a) (eI b) fun (P a b : Nat) => (∀ M : Mem, 0 + 4 ≤ 4) ∧ R ((eS (fA P a b))) [] else bif s == (2 : Int) then (∀ M : Mem, 11 ≤ 11) ∧ (∀ M : Mem, 11 ≤ 11) ∧ reC2 [(11037532056220336129 : Int), (2469829653914515739 : Int), (0 : Int), (4611686018427387904 : Int), (32 : Int), (0 : Int), (11037532056220336127 : Int), (10122100416058490895 : Int), (15551789045973377255 : Int), (8617542898466512152 : Int), (679271340751763220 : Int)] (eI a) (eI b) fun (P a b : Nat) => (∀ M : Mem, 0 + 4 ≤ 4) ∧ R ((eS (fA P a b))) [] else bif s == (3 : Int) then (∀ M : Mem, 11 ≤ 11) ∧ (∀ M : Mem, 11 ≤ 11) ∧ reC2 [(10108024940646105089 : Int), (2469829653919213789 : Int), (0 : Int), (4611686018427387904 : Int), (32 : Int), (0 : Int), (10108024940646105087 : Int), (18200867980676431887 : Int), (7474641938123724515 : Int), (9200329640471491984 : Int), (679271340771891881 : Int)] (eI a) (eI b) fun (P a b : Nat) => (∀ M : Mem, 0 + 4 ≤ 4) ∧ R ((eS (fA P a b))) [] else (∀ M : Mem, 11 ≤ 11) ∧ (∀ M : Mem, 11 ≤ 11) ∧ (∀ M : Mem, 4 ≤ 4) ∧ R (.agg [.v (vu64 0), .v (vu64 0), .v (vu64 0), .v (vu64 0)]) []) := by kernel_rfl
theorem fnS (s : Int) (a : Nat) (K : List It → St → Prop) (R : SV → List HO → Prop) : W (xwp Try.prog X K22 [(53, [])] 60 (fxOf Try.f137 [] []) [] [.at []] ⟨argsS 0 [.v (.int .i64 s), eS a], []⟩ K R) = W (bif s == (0 : Int) then (∀ M : Mem, 11 ≤ 11) ∧ (∀ M : Mem, 11 ≤ 11) ∧ reC [(16513537 : Int), (0 : Int), (0 : Int), (0 : Int), (9 : Int), (16513537 : Int), (0 : Int), (0 : Int), (0 : Int), (0 : Int), (0 : Int)] (eI a) fun (P a : Nat) => (∀ M : Mem, 0 + 4 ≤ 4) ∧ R ((eS (fN P a))) [] else bif s == (1 : Int) then (∀ M : Mem, 11 ≤ 11) ∧ (∀ M : Mem, 11 ≤ 11) ∧ reC [(16521217 : Int), (0 : Int), (0 : Int), (0 : Int), (11 : Int), (16521217 : Int), (0 : Int), (0 : Int), (0 : Int), (0 : Int), (0 : Int)] (eI a) fun (P a : Nat) => (∀ M : Mem, 0 + 4 ≤ 4) ∧ R ((eS (fN P a))) [] else bif s == (2 : Int) then (∀ M : Mem, 11 ≤ 11) ∧ (∀ M : Mem, 11 ≤ 11) ∧ reC [(11037532056220336129 : Int), (2469829653914515739 : Int), (0 : Int), (4611686018427387904 : Int), (32 : Int), (0 : Int), (11037532056220336127 : Int), (10122100416058490895 : Int), (15551789045973377255 : Int), (8617542898466512152 : Int), (679271340751763220 : Int)] (eI a) fun (P a : Nat) => (∀ M : Mem, 0 + 4 ≤ 4) ∧ R ((eS (fN P a))) [] else bif s == (3 : Int) then (∀ M : Mem, 11 ≤ 11) ∧ (∀ M : Mem, 11 ≤ 11) ∧ reC [(10108024940646105089 : Int), (2469829653919213789 : Int), (0 : Int), (4611686018427387904 : Int), (32 : Int), (0 : Int), (10108024940646105087 : Int), (18200867980676431887 : Int), (7474641938123724515 : Int), (9200329640471491984 : Int), (679271340771891881 : Int)] (eI a) fun (P a : Nat) => (∀ M : Mem, 0 + 4 ≤ 4) ∧ R ((eS (fN P a))) [] else (∀ M : Mem, 11 ≤ 11) ∧ (∀ M : Mem, 11 ≤ 11) ∧ (∀ M : Mem, 4 ≤ 4) ∧ R (.agg [.v (vu64 0), .v (vu64 0), .v (vu64 0), .v (vu64 0)]) []) := by kernel_rfl
theorem fmoS (s : Int) (K : List It → St → Prop) (R : SV → List HO → Prop) : W (xwp Try.prog X K22 [(53, [])] 60 (fxOf Try.f27 [] []) [] [.at []] ⟨argsS 0 [.v (.int .i64 s)], []⟩ K R) = W (bif s == (0 : Int) then (∀ M : Mem, 11 ≤ 11) ∧ (∀ M : Mem, 11 ≤ 11) ∧ (∀ M : Mem, 4 ≤ 4) ∧ R (.tup [.agg [.v (vu64 16513537), .v (vu64 0), .v (vu64 0), .v (vu64 0)], .v (vi64 0)]) [] else bif s == (1 : Int) then (∀ M : Mem, 11 ≤ 11) ∧ (∀ M : Mem, 11 ≤ 11) ∧ (∀ M : Mem, 4 ≤ 4) ∧ R (.tup [.agg [.v (vu64 16521217), .v (vu64 0), .v (vu64 0), .v (vu64 0)], .v (vi64 0)]) [] else bif s == (2 : Int) then (∀ M : Mem, 11 ≤ 11) ∧ (∀ M : Mem, 11 ≤ 11) ∧ (∀ M : Mem, 4 ≤ 4) ∧ R (.tup [.agg [.v (vu64 11037532056220336129), .v (vu64 2469829653914515739), .v (vu64 0), .v (vu64 4611686018427387904)], .v (vi64 0)]) [] else bif s == (3 : Int) then (∀ M : Mem, 11 ≤ 11) ∧ (∀ M : Mem, 11 ≤ 11) ∧ (∀ M : Mem, 4 ≤ 4) ∧ R (.tup [.agg [.v (vu64 10108024940646105089), .v (vu64 2469829653919213789), .v (vu64 0), .v (vu64 4611686018427387904)], .v (vi64 0)]) [] else (∀ M : Mem, 11 ≤ 11) ∧ (∀ M : Mem, 11 ≤ 11) ∧ (∀ M : Mem, 4 ≤ 4) ∧ R (.tup [.agg [.v (vu64 0), .v (vu64 0), .v (vu64 0), .v (vu64 0)], .v (vi64 20)]) []) := by kernel_rfl
theorem bFa : Try.f28.body.isSome = true := by kernel_rfl
theorem nFa (s : Int) (a b : Nat) : Nat.ble [SV.v (.int .i64 s), eS a, eS b].length Try.f28.ntmps = true := by kernel_rfl
theorem fa_ok (s : Int) (a b : Nat) (ha : a < top) (hb : b < top) (Q : SV → List HO → Prop) (hq : Q (eS (fAd s a b)) []) : FnOk Try.prog 28 [.v (.int .i64 s), eS a, eS b] [] Q := by
  refine fn_of_ok Try.func28 bFa ?_ ?_
  · exact nFa s a b
  refine run_sound hm 60 ((faS s a b _ _).mpr ⟨?_⟩)
  simp only [cond_beq]
  refine ite_intro (fun h0 => ?_) (fun h0 => ?_)
  · subst h0
    exact And.intro (fun _ => by omega) (And.intro (fun _ => by omega) (reC2_mk _ a b .p ha hb ⟨fun _ => by omega, hq⟩))
  refine ite_intro (fun h1 => ?_) (fun h1 => ?_)
  · subst h1
    exact And.intro (fun _ => by omega) (And.intro (fun _ => by omega) (reC2_mk _ a b .q ha hb ⟨fun _ => by omega, hq⟩))
  refine ite_intro (fun h2 => ?_) (fun h2 => ?_)
  · subst h2
    exact And.intro (fun _ => by omega) (And.intro (fun _ => by omega) (reC2_mk _ a b .r ha hb ⟨fun _ => by omega, hq⟩))
  refine ite_intro (fun h3 => ?_) (fun h3 => ?_)
  · subst h3
    exact And.intro (fun _ => by omega) (And.intro (fun _ => by omega) (reC2_mk _ a b .t ha hb ⟨fun _ => by omega, hq⟩))
  refine And.intro (fun _ => by omega) (And.intro (fun _ => by omega) (And.intro (fun _ => by omega) ?_))
  rw [fAd, if_pos (fP_no h0 h1 h2 h3), eS_zero] at hq
  exact hq
noncomputable def gFa : List SV → List HO → Option ((SV → List HO → Prop) → Prop)
  | [.v (.int .i64 s), .agg [.v (.int .u64 a0), .v (.int .u64 a1), .v (.int .u64 a2), .v (.int .u64 a3)], .agg [.v (.int .u64 b0), .v (.int .u64 b1), .v (.int .u64 b2), .v (.int .u64 b3)]], [] => some fun Q => c2C [a0, a1, a2, a3] [b0, b1, b2, b3] fun a b => Q (eS (fAd s a b)) []
  | _, _ => none
theorem gFa_ok (args : List SV) (h : List HO) (tr : (SV → List HO → Prop) → Prop) (Q : SV → List HO → Prop) (hc : gFa args h = some tr) (ht : tr Q) : FnOk Try.prog 28 args h Q := by
  unfold gFa at hc
  split at hc
  · rename_i s a0 a1 a2 a3 b0 b1 b2 b3
    simp only [Option.some.injEq] at hc
    subst hc
    obtain ⟨a, b, e1, e2, ha, hb, hq⟩ := ht.h
    simp only [List.cons.injEq, and_true] at e1 e2
    obtain ⟨rfl, rfl, rfl, rfl⟩ := e1
    obtain ⟨rfl, rfl, rfl, rfl⟩ := e2
    exact fa_ok s a b ha hb Q hq
  · cases hc

theorem bFn : Try.f137.body.isSome = true := by kernel_rfl
theorem nFn (s : Int) (a : Nat) : Nat.ble [SV.v (.int .i64 s), eS a].length Try.f137.ntmps = true := by kernel_rfl
theorem fn_ok (s : Int) (a : Nat) (ha : a < top) (Q : SV → List HO → Prop) (hq : Q (eS (fNg s a)) []) : FnOk Try.prog 137 [.v (.int .i64 s), eS a] [] Q := by
  refine fn_of_ok Try.func137 bFn ?_ ?_
  · exact nFn s a
  refine run_sound hm 60 ((fnS s a _ _).mpr ⟨?_⟩)
  simp only [cond_beq]
  refine ite_intro (fun h0 => ?_) (fun h0 => ?_)
  · subst h0
    exact And.intro (fun _ => by omega) (And.intro (fun _ => by omega) (reC_mk _ a .p ha ⟨fun _ => by omega, hq⟩))
  refine ite_intro (fun h1 => ?_) (fun h1 => ?_)
  · subst h1
    exact And.intro (fun _ => by omega) (And.intro (fun _ => by omega) (reC_mk _ a .q ha ⟨fun _ => by omega, hq⟩))
  refine ite_intro (fun h2 => ?_) (fun h2 => ?_)
  · subst h2
    exact And.intro (fun _ => by omega) (And.intro (fun _ => by omega) (reC_mk _ a .r ha ⟨fun _ => by omega, hq⟩))
  refine ite_intro (fun h3 => ?_) (fun h3 => ?_)
  · subst h3
    exact And.intro (fun _ => by omega) (And.intro (fun _ => by omega) (reC_mk _ a .t ha ⟨fun _ => by omega, hq⟩))
  refine And.intro (fun _ => by omega) (And.intro (fun _ => by omega) (And.intro (fun _ => by omega) ?_))
  rw [fNg, if_pos (fP_no h0 h1 h2 h3), eS_zero] at hq
  exact hq
noncomputable def gFn : List SV → List HO → Option ((SV → List HO → Prop) → Prop)
  | [.v (.int .i64 s), .agg [.v (.int .u64 a0), .v (.int .u64 a1), .v (.int .u64 a2), .v (.int .u64 a3)]], [] => some fun Q => c1C [a0, a1, a2, a3] fun a => Q (eS (fNg s a)) []
  | _, _ => none
theorem gFn_ok (args : List SV) (h : List HO) (tr : (SV → List HO → Prop) → Prop) (Q : SV → List HO → Prop) (hc : gFn args h = some tr) (ht : tr Q) : FnOk Try.prog 137 args h Q := by
  unfold gFn at hc
  split at hc
  · rename_i s a0 a1 a2 a3
    simp only [Option.some.injEq] at hc
    subst hc
    obtain ⟨a, e1, ha, hq⟩ := ht.h
    simp only [List.cons.injEq, and_true] at e1
    obtain ⟨rfl, rfl, rfl, rfl⟩ := e1
    exact fn_ok s a ha Q hq
  · cases hc

theorem bFo : Try.f27.body.isSome = true := by kernel_rfl
theorem nFo (s : Int) : Nat.ble [SV.v (.int .i64 s)].length Try.f27.ntmps = true := by kernel_rfl
theorem fo_ok (s : Int) (Q : SV → List HO → Prop) (hq : Q (.tup [eS (fP s), .v (.int .i64 (fE s))]) []) : FnOk Try.prog 27 [.v (.int .i64 s)] [] Q := by
  refine fn_of_ok Try.func27 bFo ?_ ?_
  · exact nFo s
  refine run_sound hm 60 ((fmoS s _ _).mpr ⟨?_⟩)
  simp only [cond_beq]
  refine ite_intro (fun h0 => ?_) (fun h0 => ?_)
  · subst h0
    refine And.intro (fun _ => by omega) (And.intro (fun _ => by omega) (And.intro (fun _ => by omega) ?_))
    have e : fE 0 = 0 := rfl
    rw [show fP 0 = 16513537 from rfl, e, eS, (limb_small 16513537 (by omega)).1, (limb_small 16513537 (by omega)).2.1, (limb_small 16513537 (by omega)).2.2.1, (limb_small 16513537 (by omega)).2.2.2] at hq
    exact hq
  refine ite_intro (fun h1 => ?_) (fun h1 => ?_)
  · subst h1
    refine And.intro (fun _ => by omega) (And.intro (fun _ => by omega) (And.intro (fun _ => by omega) ?_))
    have e : fE 1 = 0 := rfl
    rw [show fP 1 = 16521217 from rfl, e, eS, (limb_small 16521217 (by omega)).1, (limb_small 16521217 (by omega)).2.1, (limb_small 16521217 (by omega)).2.2.1, (limb_small 16521217 (by omega)).2.2.2] at hq
    exact hq
  refine ite_intro (fun h2 => ?_) (fun h2 => ?_)
  · subst h2
    refine And.intro (fun _ => by omega) (And.intro (fun _ => by omega) (And.intro (fun _ => by omega) ?_))
    have e : fE 2 = 0 := rfl
    rw [show fP 2 = 28948022309329048855892746252171976963363056481941560715954676764349967630337 from rfl, e, eS, limbP2.1, limbP2.2.1, limbP2.2.2.1, limbP2.2.2.2] at hq
    exact hq
  refine ite_intro (fun h3 => ?_) (fun h3 => ?_)
  · subst h3
    refine And.intro (fun _ => by omega) (And.intro (fun _ => by omega) (And.intro (fun _ => by omega) ?_))
    have e : fE 3 = 0 := rfl
    rw [show fP 3 = 28948022309329048855892746252171976963363056481941647379679742748393362948097 from rfl, e, eS, limbP3.1, limbP3.2.1, limbP3.2.2.1, limbP3.2.2.2] at hq
    exact hq
  refine And.intro (fun _ => by omega) (And.intro (fun _ => by omega) (And.intro (fun _ => by omega) ?_))
  rw [fE, if_pos (fP_no h0 h1 h2 h3), fP_no h0 h1 h2 h3, eS_zero] at hq
  exact hq
noncomputable def gFo : List SV → List HO → Option ((SV → List HO → Prop) → Prop)
  | [.v (.int .i64 s)], [] => some fun Q => Q (.tup [eS (fP s), .v (.int .i64 (fE s))]) []
  | _, _ => none
theorem gFo_ok (args : List SV) (h : List HO) (tr : (SV → List HO → Prop) → Prop) (Q : SV → List HO → Prop) (hc : gFo args h = some tr) (ht : tr Q) : FnOk Try.prog 27 args h Q := by
  unfold gFo at hc
  split at hc
  · rename_i s
    simp only [Option.some.injEq] at hc
    subst hc
    exact fo_ok s Q ht
  · cases hc
noncomputable def K23 : Con Try.prog := ((K22.add 28 gFa gFa_ok).add 137 gFn gFn_ok).add 27 gFo gFo_ok
end Go.Proofs.Ytlmjdcbhpffanaa
/- The product of two words. -/
namespace Go.Pl
open Go.Sx
noncomputable def mulLo (x y : Nat) : Nat := hide (x * y % 18446744073709551616)
noncomputable def mulHi (x y : Nat) : Nat := hide (x * y / 18446744073709551616)
theorem mul_eq (x y : Nat) : x * y = mulLo x y + 18446744073709551616 * mulHi x y ∧ mulLo x y < 18446744073709551616 := by
  rw [mulLo, mulHi, hide_eq, hide_eq]; omega
structure w2C (ds : List Int) (k : Nat → Nat → Prop) : Prop where
  h : ∃ x y : Nat, ds = [(x : Int), (y : Int)] ∧ x < 18446744073709551616 ∧ y < 18446744073709551616 ∧ k x y
theorem w2C_mk {k : Nat → Nat → Prop} (x y : Nat) (hx : x < 18446744073709551616) (hy : y < 18446744073709551616) (h : k x y) : w2C [(x : Int), (y : Int)] k := ⟨⟨x, y, rfl, hx, hy, h⟩⟩
theorem maskN (a : Nat) (ha : a < 18446744073709551616) : IntKind.wrap IntKind.u64 (↑(Int.toNat ((a : Int) % (18446744073709551616 : Int)) &&& (4294967295 : Nat)) : Int) = ((a % 4294967296 : Nat) : Int) := by
  have h1 : Int.toNat ((a : Int) % (18446744073709551616 : Int)) = a := by omega
  have e : a &&& 4294967295 = a % 4294967296 := Nat.and_two_pow_sub_one_eq_mod a 32
  rw [h1, e, wrap_u64]
  omega
theorem mulN (a b : Nat) : (a : Int) * (b : Int) = ((a * b : Nat) : Int) := (Int.natCast_mul a b).symm
theorem addNN (a b : Nat) : (a : Int) + (b : Int) = ((a + b : Nat) : Int) := (Int.natCast_add a b).symm
theorem wrapM (a : Nat) : IntKind.wrap .u64 (a : Int) = ((a % 18446744073709551616 : Nat) : Int) := by rw [wrap_u64]; omega
theorem maskM (a : Nat) (ha : a < 18446744073709551616) : IntKind.wrap IntKind.u64 (((a % 18446744073709551616 &&& 4294967295 : Nat) : Nat) : Int) = ((a % 4294967296 : Nat) : Int) := by
  have e : a &&& 4294967295 = a % 4294967296 := Nat.and_two_pow_sub_one_eq_mod a 32
  rw [Nat.mod_eq_of_lt ha, e, wrap_u64]
  omega
end Go.Pl
namespace Go.Proofs.Ytlmjdcbhpffanaa
open Go.Sx Go.Pl
set_option linter.unusedVariables false
set_option maxRecDepth 100000
theorem m64S (x y : Nat) (K : List It → St → Prop) (R : SV → List HO → Prop) : W (xwp Try.prog X K23 [] 60 (fxOf Try.f148 [] []) [] [.at []] ⟨argsS 0 [.v (.int .u64 (x : Nat)), .v (.int .u64 (y : Nat))], []⟩ K R) = W ((∀ M : Mem, ¬(32 : Int) < (0 : Int)) ∧ (∀ M : Mem, ¬(32 : Int) < (0 : Int)) ∧ (∀ M : Mem, ¬(32 : Int) < (0 : Int)) ∧ (∀ M : Mem, ¬(32 : Int) < (0 : Int)) ∧ (∀ M : Mem, ¬(32 : Int) < (0 : Int)) ∧ R (.tup [.v (vu64 (IntKind.wrap IntKind.u64 (IntKind.wrap IntKind.u64 (IntKind.wrap IntKind.u64 (Int.fdiv (↑x : Int) (4294967296 : Int) * Int.fdiv (↑y : Int) (4294967296 : Int)) + Int.fdiv (IntKind.wrap IntKind.u64 (IntKind.wrap IntKind.u64 (Int.fdiv (↑x : Int) (4294967296 : Int) * IntKind.wrap IntKind.u64 (↑(y % 18446744073709551616 &&& 4294967295) : Int)) + Int.fdiv (IntKind.wrap IntKind.u64 (IntKind.wrap IntKind.u64 (↑(x % 18446744073709551616 &&& 4294967295) : Int) * IntKind.wrap IntKind.u64 (↑(y % 18446744073709551616 &&& 4294967295) : Int))) (4294967296 : Int))) (4294967296 : Int)) + Int.fdiv (IntKind.wrap IntKind.u64 (IntKind.wrap IntKind.u64 (↑(Int.toNat (IntKind.wrap IntKind.u64 (IntKind.wrap IntKind.u64 (Int.fdiv (↑x : Int) (4294967296 : Int) * IntKind.wrap IntKind.u64 (↑(y % 18446744073709551616 &&& 4294967295) : Int)) + Int.fdiv (IntKind.wrap IntKind.u64 (IntKind.wrap IntKind.u64 (↑(x % 18446744073709551616 &&& 4294967295) : Int) * IntKind.wrap IntKind.u64 (↑(y % 18446744073709551616 &&& 4294967295) : Int))) (4294967296 : Int)) % (18446744073709551616 : Int)) &&& 4294967295) : Int) + IntKind.wrap IntKind.u64 (IntKind.wrap IntKind.u64 (↑(x % 18446744073709551616 &&& 4294967295) : Int) * Int.fdiv (↑y : Int) (4294967296 : Int)))) (4294967296 : Int)))), .v (vu64 (IntKind.wrap IntKind.u64 ((↑x : Int) * (↑y : Int))))]) []) := by kernel_rfl
theorem bMl : Try.f148.body.isSome = true := by kernel_rfl
theorem nMl (x y : Nat) : Nat.ble [SV.v (.int .u64 (x : Nat)), .v (.int .u64 (y : Nat))].length Try.f148.ntmps = true := by kernel_rfl
theorem ml_ok (x y : Nat) (hx : x < 18446744073709551616) (hy : y < 18446744073709551616) (Q : SV → List HO → Prop) (hq : Q (.tup [.v (.int .u64 (mulHi x y : Nat)), .v (.int .u64 (mulLo x y : Nat))]) []) : FnOk Try.prog 148 [.v (.int .u64 (x : Nat)), .v (.int .u64 (y : Nat))] [] Q := by
  refine fn_of_ok Try.func148 bMl ?_ ?_
  · exact nMl x y
  refine run_sound hm 60 ((m64S x y _ _).mpr ⟨?_⟩)
  refine And.intro (fun _ => by omega) (And.intro (fun _ => by omega) (And.intro (fun _ => by omega) (And.intro (fun _ => by omega) (And.intro (fun _ => by omega) ?_))))
  · obtain ⟨bd, bt, bw, hhi⟩ := Lib.mul64_hi x y hx hy
    have ba := Lib.half_mul_le (a := x / 4294967296) (b := y / 4294967296) (by omega) (by omega)
    have bb := Lib.half_mul_le (a := x / 4294967296) (b := y % 4294967296) (by omega) (by omega)
    have bc := Lib.half_mul_le (a := x % 4294967296) (b := y / 4294967296) (by omega) (by omega)
    have ba' : x / 4294967296 * (y / 4294967296) < 18446744073709551616 := by omega
    have bb' : x / 4294967296 * (y % 4294967296) < 18446744073709551616 := by omega
    have bc' : x % 4294967296 * (y / 4294967296) < 18446744073709551616 := by omega
    have bh1 : x / 4294967296 * (y / 4294967296) + (x / 4294967296 * (y % 4294967296) + x % 4294967296 * (y % 4294967296) / 4294967296) / 4294967296 < 18446744073709551616 := by omega
    have bh : x / 4294967296 * (y / 4294967296) + (x / 4294967296 * (y % 4294967296) + x % 4294967296 * (y % 4294967296) / 4294967296) / 4294967296 + ((x / 4294967296 * (y % 4294967296) + x % 4294967296 * (y % 4294967296) / 4294967296) % 4294967296 + x % 4294967296 * (y / 4294967296)) / 4294967296 < 18446744073709551616 := by omega
    simp only [maskM x hx, maskM y hy, fdivN, mulN, addNN, wrapN _ bd, wrapN _ bb', wrapN _ bt, maskN _ bt, wrapN _ bc', wrapN _ bw, wrapN _ ba', wrapN _ bh1, wrapN _ bh, wrapM (x * y)]
    rw [mulHi, mulLo, hide_eq, hide_eq] at hq
    rw [hhi]
    exact hq
noncomputable def gMl : List SV → List HO → Option ((SV → List HO → Prop) → Prop)
  | [.v (.int .u64 x), .v (.int .u64 y)], [] => some fun Q => w2C [x, y] fun x y => Q (.tup [.v (.int .u64 (mulHi x y : Nat)), .v (.int .u64 (mulLo x y : Nat))]) []
  | _, _ => none
theorem gMl_ok (args : List SV) (h : List HO) (tr : (SV → List HO → Prop) → Prop) (Q : SV → List HO → Prop) (hc : gMl args h = some tr) (ht : tr Q) : FnOk Try.prog 148 args h Q := by
  unfold gMl at hc
  split at hc
  · rename_i x0 y0
    simp only [Option.some.injEq] at hc
    subst hc
    obtain ⟨x, y, e1, hx, hy, hq⟩ := ht.h
    simp only [List.cons.injEq, and_true] at e1
    obtain ⟨rfl, rfl⟩ := e1
    exact ml_ok x y hx hy Q hq
  · cases hc
noncomputable def K24 : Con Try.prog := K23.add 148 gMl gMl_ok
end Go.Proofs.Ytlmjdcbhpffanaa
/- A number of six words, and a product more. -/
namespace Go.Pl
open Go.Sx
def nv6 (a b c d e f : Nat) : Nat := a + 18446744073709551616 * b + 340282366920938463463374607431768211456 * c + 6277101735386680763835789423207666416102355444464034512896 * d + 115792089237316195423570985008687907853269984665640564039457584007913129639936 * e + 2135987035920910082395021706169552114602704522356652769947041607822219725780640550022962086936576 * f
def top6 : Nat := 39402006196394479212279040100143613805079739270465446667948293404245721771497210611414266254884915640806627990306816
noncomputable abbrev eS6 (a : Nat) : SV := .agg [.v (.int .u64 (limb a 0 : Nat)), .v (.int .u64 (limb a 1 : Nat)), .v (.int .u64 (limb a 2 : Nat)), .v (.int .u64 (limb a 3 : Nat)), .v (.int .u64 (limb a 4 : Nat)), .v (.int .u64 (limb a 5 : Nat))]
noncomputable abbrev eI6 (a : Nat) : List Int := [(limb a 0 : Int), (limb a 1 : Int), (limb a 2 : Int), (limb a 3 : Int), (limb a 4 : Int), (limb a 5 : Int)]
theorem limb4 (n : Nat) : limb n 4 = n / 115792089237316195423570985008687907853269984665640564039457584007913129639936 % 18446744073709551616 := by simp [limb, hide_eq]
theorem limb5 (n : Nat) : limb n 5 = n / 2135987035920910082395021706169552114602704522356652769947041607822219725780640550022962086936576 % 18446744073709551616 := by simp [limb, hide_eq]
theorem nv6_limb (n : Nat) (h : n < top6) : nv6 (limb n 0) (limb n 1) (limb n 2) (limb n 3) (limb n 4) (limb n 5) = n := by
  simp only [nv6, limb0, limb1, limb2, limb3, limb4, limb5, top6] at h ⊢; omega
theorem limb_nv6 {a b c d e f : Nat} (ha : a < 18446744073709551616) (hb : b < 18446744073709551616) (hc : c < 18446744073709551616) (hd : d < 18446744073709551616) (he : e < 18446744073709551616) (hf : f < 18446744073709551616) :
    limb (nv6 a b c d e f) 0 = a ∧ limb (nv6 a b c d e f) 1 = b ∧ limb (nv6 a b c d e f) 2 = c ∧ limb (nv6 a b c d e f) 3 = d ∧ limb (nv6 a b c d e f) 4 = e ∧ limb (nv6 a b c d e f) 5 = f := by
  simp only [nv6, limb0, limb1, limb2, limb3, limb4, limb5]; omega
theorem acStep (t a x c : Nat) (ht : t < 18446744073709551616) (ha : a < 18446744073709551616) (hx : x < 18446744073709551616) (hc : c < 18446744073709551616) : ∃ r d : Nat, adLo t (adLo (mulLo a x) c 0) 0 = r ∧
    IntKind.wrap IntKind.u64 (IntKind.wrap IntKind.u64 ((↑(mulHi a x) : Int) + (↑(adHi (mulLo a x) c 0) : Int)) + (↑(adHi t (adLo (mulLo a x) c 0) 0) : Int)) = (d : Int) ∧ t + a * x + c = r + 18446744073709551616 * d ∧ r < 18446744073709551616 ∧ d < 18446744073709551616 := by
  have h1 := mul_eq a x
  have h2 : a * x ≤ 18446744073709551615 * 18446744073709551615 := Nat.mul_le_mul (by omega) (by omega)
  generalize a * x = y at *
  generalize mulLo a x = lo at *
  generalize mulHi a x = hi at *
  have h3 := ad_eq lo c 0
  generalize adLo lo c 0 = l1 at *
  generalize adHi lo c 0 = k1 at *
  have h4 := ad_eq t l1 0
  generalize adLo t l1 0 = r at *
  generalize adHi t l1 0 = k2 at *
  refine ⟨r, hi + k1 + k2, rfl, ?_, by omega, by omega, by omega⟩
  rw [wrap_u64, wrap_u64]
  omega
theorem ac_sum (t0 t1 t2 t3 t4 t5 a0 a1 a2 a3 x r0 r1 r2 r3 r4 c1 c2 c3 c4 c5 : Nat) (h0 : t0 + a0 * x + 0 = r0 + 18446744073709551616 * c1) (h1 : t1 + a1 * x + c1 = r1 + 18446744073709551616 * c2) (h2 : t2 + a2 * x + c2 = r2 + 18446744073709551616 * c3) (h3 : t3 + a3 * x + c3 = r3 + 18446744073709551616 * c4) (h4 : t4 + c4 + 0 = r4 + 18446744073709551616 * c5) :
    nv6 t0 t1 t2 t3 t4 t5 + nv a0 a1 a2 a3 * x = nv6 r0 r1 r2 r3 r4 (t5 + c5) := by
  have e : nv a0 a1 a2 a3 * x = a0 * x + 18446744073709551616 * (a1 * x) + 340282366920938463463374607431768211456 * (a2 * x) + 6277101735386680763835789423207666416102355444464034512896 * (a3 * x) := by
    simp only [nv, Nat.add_mul, Nat.mul_assoc]
  rw [e]
  generalize a0 * x = y0 at *
  generalize a1 * x = y1 at *
  generalize a2 * x = y2 at *
  generalize a3 * x = y3 at *
  simp only [nv6]
  omega
noncomputable def acN (t a x : Nat) : Nat := hide (t + a * x)
theorem acN_eq (t a x : Nat) : acN t a x = t + a * x := hide_eq _
structure acC (ts ds : List Int) (x : Int) (k : Nat → Nat → Nat → Prop) : Prop where
  h : ∃ t a y : Nat, ts = eI6 t ∧ ds = eI a ∧ x = (y : Int) ∧ a < top ∧ y < 18446744073709551616 ∧ t + a * y < top6 ∧ k t a y
theorem acC_mk {k : Nat → Nat → Nat → Prop} (t a y : Nat) (ha : a < top) (hy : y < 18446744073709551616) (ht : t + a * y < top6) (h : k t a y) : acC (eI6 t) (eI a) (y : Int) k := ⟨⟨t, a, y, rfl, rfl, rfl, ha, hy, ht, h⟩⟩
end Go.Pl
namespace Go.Proofs.Ytlmjdcbhpffanaa
open Go.Sx Go.Pl
set_option linter.unusedVariables false
set_option maxRecDepth 100000
theorem acS (t0 t1 t2 t3 t4 t5 x : Nat) (a : Nat) (K : List It → St → Prop) (R : SV → List HO → Prop) : W (xwp Try.prog X K24 [] 60 (fxOf Try.f147 [] [⟨[0,1,0,1,1], [2,3,4,6,7,13], []⟩]) [] [.at []] ⟨argsS 0 [.agg [.v (.int .u64 (t0 : Nat)), .v (.int .u64 (t1 : Nat)), .v (.int .u64 (t2 : Nat)), .v (.int .u64 (t3 : Nat)), .v (.int .u64 (t4 : Nat)), .v (.int .u64 (t5 : Nat))], eS a, .v (.int .u64 (x : Nat))], []⟩ K R) = W (K [.at [0,1,0,1,1], .blk 0, .at [1,1,1]] (St.mk [(2, .v (vu64 (↑x : Int))), (3, .p 0 0), (4, .p 1 0), (6, .p 2 0), (7, .v (vu64 0)), (13, .v (vi64 0))] [.cells [.v (vu64 (↑t0 : Int)), .v (vu64 (↑t1 : Int)), .v (vu64 (↑t2 : Int)), .v (vu64 (↑t3 : Int)), .v (vu64 (↑t4 : Int)), .v (vu64 (↑t5 : Int))] 235, .cells [.v (vu64 (↑(limb a 0) : Int)), .v (vu64 (↑(limb a 1) : Int)), .v (vu64 (↑(limb a 2) : Int)), .v (vu64 (↑(limb a 3) : Int))] 56, .cells [.v (vu64 0), .v (vu64 0), .v (vu64 0), .v (vu64 0), .v (vu64 0), .v (vu64 0)] 235])) := by kernel_rfl
theorem acL0 (t0 t1 t2 t3 t4 t5 x c a M : Nat) (K : List It → St → Prop) (R : SV → List HO → Prop) : W (xwp Try.prog X K24 [] 60 (fxOf Try.f147 [] [⟨[0,1,0,1,1], [2,3,4,6,7,13], []⟩]) [] (.at [0,0,1,0,1,1] :: .rnd [0,0,1,0,1,1] M :: [.blk 0, .at [1,1,1]]) ⟨[(2, .v (.int .u64 (x : Nat))), (3, .p 0 0), (4, .p 1 0), (6, .p 2 0), (7, .v (.int .u64 (c : Nat))), (13, .v (.int .i64 0))], [.cells [.v (.int .u64 (t0 : Nat)), .v (.int .u64 (t1 : Nat)), .v (.int .u64 (t2 : Nat)), .v (.int .u64 (t3 : Nat)), .v (.int .u64 (t4 : Nat)), .v (.int .u64 (t5 : Nat))] 235, .cells [.v (.int .u64 (limb a 0 : Nat)), .v (.int .u64 (limb a 1 : Nat)), .v (.int .u64 (limb a 2 : Nat)), .v (.int .u64 (limb a 3 : Nat))] 56, .cells [.v (.int .u64 0), .v (.int .u64 0), .v (.int .u64 0), .v (.int .u64 0), .v (.int .u64 0), .v (.int .u64 0)] 235]⟩ K R) = W ((∀ M : Mem, (0 : Int) ≤ (0 : Int) ∧ (0 : Int) < (4 : Int)) ∧ w2C [(↑(limb a 0) : Int), (↑x : Int)] fun (x_1 y : Nat) => (∀ M : Mem, (0 : Int) ≤ (↑(mulLo x_1 y) : Int) ∧ (0 : Int) ≤ (↑c : Int) ∧ (0 : Int) ≤ (0 : Int) ∧ 0 ≤ 1) ∧ (∀ M : Mem, (0 : Int) ≤ (0 : Int) ∧ (0 : Int) < (6 : Int)) ∧ (∀ M : Mem, (0 : Int) ≤ (↑t0 : Int) ∧ (0 : Int) ≤ (↑(adLo (mulLo x_1 y) c 0) : Int) ∧ (0 : Int) ≤ (0 : Int) ∧ 0 ≤ 1) ∧ (∀ M : Mem, (0 : Int) ≤ (0 : Int) ∧ (0 : Int) < (6 : Int)) ∧ (∀ M : Mem, 0 + 1 ≤ 6) ∧ K [.rnd [0,0,1,0,1,1] M, .blk 0, .at [1,1,1]] (St.mk [(2, .v (vu64 (↑x : Int))), (3, .p 0 0), (4, .p 1 0), (6, .p 2 0), (7, .v (vu64 (IntKind.wrap IntKind.u64 (IntKind.wrap IntKind.u64 ((↑(mulHi x_1 y) : Int) + (↑(adHi (mulLo x_1 y) c 0) : Int)) + (↑(adHi t0 (adLo (mulLo x_1 y) c 0) 0) : Int))))), (13, .v (vi64 1))] [.cells [.v (vu64 (↑(adLo t0 (adLo (mulLo x_1 y) c 0) 0) : Int)), .v (vu64 (↑t1 : Int)), .v (vu64 (↑t2 : Int)), .v (vu64 (↑t3 : Int)), .v (vu64 (↑t4 : Int)), .v (vu64 (↑t5 : Int))] 235, .cells [.v (vu64 (↑(limb a 0) : Int)), .v (vu64 (↑(limb a 1) : Int)), .v (vu64 (↑(limb a 2) : Int)), .v (vu64 (↑(limb a 3) : Int))] 56, .cells [.v (vu64 0), .v (vu64 0), .v (vu64 0), .v (vu64 0), .v (vu64 0), .v (vu64 0)] 235])) := by kernel_rfl
theorem acL1 (t0 t1 t2 t3 t4 t5 x c a M : Nat) (K : List It → St → Prop) (R : SV → List HO → Prop) : W (xwp Try.prog X K24 [] 60 (fxOf Try.f147 [] [⟨[0,1,0,1,1], [2,3,4,6,7,13], []⟩]) [] (.at [0,0,1,0,1,1] :: .rnd [0,0,1,0,1,1] M :: [.blk 0, .at [1,1,1]]) ⟨[(2, .v (.int .u64 (x : Nat))), (3, .p 0 0), (4, .p 1 0), (6, .p 2 0), (7, .v (.int .u64 (c : Nat))), (13, .v (.int .i64 1))], [.cells [.v (.int .u64 (t0 : Nat)), .v (.int .u64 (t1 : Nat)), .v (.int .u64 (t2 : Nat)), .v (.int .u64 (t3 : Nat)), .v (.int .u64 (t4 : Nat)), .v (.int .u64 (t5 : Nat))] 235, .cells [.v (.int .u64 (limb a 0 : Nat)), .v (.int .u64 (limb a 1 : Nat)), .v (.int .u64 (limb a 2 : Nat)), .v (.int .u64 (limb a 3 : Nat))] 56, .cells [.v (.int .u64 0), .v (.int .u64 0), .v (.int .u64 0), .v (.int .u64 0), .v (.int .u64 0), .v (.int .u64 0)] 235]⟩ K R) = W ((∀ M : Mem, (0 : Int) ≤ (1 : Int) ∧ (1 : Int) < (4 : Int)) ∧ w2C [(↑(limb a 1) : Int), (↑x : Int)] fun (x_1 y : Nat) => (∀ M : Mem, (0 : Int) ≤ (↑(mulLo x_1 y) : Int) ∧ (0 : Int) ≤ (↑c : Int) ∧ (0 : Int) ≤ (0 : Int) ∧ 0 ≤ 1) ∧ (∀ M : Mem, (0 : Int) ≤ (1 : Int) ∧ (1 : Int) < (6 : Int)) ∧ (∀ M : Mem, (0 : Int) ≤ (↑t1 : Int) ∧ (0 : Int) ≤ (↑(adLo (mulLo x_1 y) c 0) : Int) ∧ (0 : Int) ≤ (0 : Int) ∧ 0 ≤ 1) ∧ (∀ M : Mem, (0 : Int) ≤ (1 : Int) ∧ (1 : Int) < (6 : Int)) ∧ (∀ M : Mem, 1 + 1 ≤ 6) ∧ K [.rnd [0,0,1,0,1,1] M, .blk 0, .at [1,1,1]] (St.mk [(2, .v (vu64 (↑x : Int))), (3, .p 0 0), (4, .p 1 0), (6, .p 2 0), (7, .v (vu64 (IntKind.wrap IntKind.u64 (IntKind.wrap IntKind.u64 ((↑(mulHi x_1 y) : Int) + (↑(adHi (mulLo x_1 y) c 0) : Int)) + (↑(adHi t1 (adLo (mulLo x_1 y) c 0) 0) : Int))))), (13, .v (vi64 2))] [.cells [.v (vu64 (↑t0 : Int)), .v (vu64 (↑(adLo t1 (adLo (mulLo x_1 y) c 0) 0) : Int)), .v (vu64 (↑t2 : Int)), .v (vu64 (↑t3 : Int)), .v (vu64 (↑t4 : Int)), .v (vu64 (↑t5 : Int))] 235, .cells [.v (vu64 (↑(limb a 0) : Int)), .v (vu64 (↑(limb a 1) : Int)), .v (vu64 (↑(limb a 2) : Int)), .v (vu64 (↑(limb a 3) : Int))] 56, .cells [.v (vu64 0), .v (vu64 0), .v (vu64 0), .v (vu64 0), .v (vu64 0), .v (vu64 0)] 235])) := by kernel_rfl
theorem acL2 (t0 t1 t2 t3 t4 t5 x c a M : Nat) (K : List It → St → Prop) (R : SV → List HO → Prop) : W (xwp Try.prog X K24 [] 60 (fxOf Try.f147 [] [⟨[0,1,0,1,1], [2,3,4,6,7,13], []⟩]) [] (.at [0,0,1,0,1,1] :: .rnd [0,0,1,0,1,1] M :: [.blk 0, .at [1,1,1]]) ⟨[(2, .v (.int .u64 (x : Nat))), (3, .p 0 0), (4, .p 1 0), (6, .p 2 0), (7, .v (.int .u64 (c : Nat))), (13, .v (.int .i64 2))], [.cells [.v (.int .u64 (t0 : Nat)), .v (.int .u64 (t1 : Nat)), .v (.int .u64 (t2 : Nat)), .v (.int .u64 (t3 : Nat)), .v (.int .u64 (t4 : Nat)), .v (.int .u64 (t5 : Nat))] 235, .cells [.v (.int .u64 (limb a 0 : Nat)), .v (.int .u64 (limb a 1 : Nat)), .v (.int .u64 (limb a 2 : Nat)), .v (.int .u64 (limb a 3 : Nat))] 56, .cells [.v (.int .u64 0), .v (.int .u64 0), .v (.int .u64 0), .v (.int .u64 0), .v (.int .u64 0), .v (.int .u64 0)] 235]⟩ K R) = W ((∀ M : Mem, (0 : Int) ≤ (2 : Int) ∧ (2 : Int) < (4 : Int)) ∧ w2C [(↑(limb a 2) : Int), (↑x : Int)] fun (x_1 y : Nat) => (∀ M : Mem, (0 : Int) ≤ (↑(mulLo x_1 y) : Int) ∧ (0 : Int) ≤ (↑c : Int) ∧ (0 : Int) ≤ (0 : Int) ∧ 0 ≤ 1) ∧ (∀ M : Mem, (0 : Int) ≤ (2 : Int) ∧ (2 : Int) < (6 : Int)) ∧ (∀ M : Mem, (0 : Int) ≤ (↑t2 : Int) ∧ (0 : Int) ≤ (↑(adLo (mulLo x_1 y) c 0) : Int) ∧ (0 : Int) ≤ (0 : Int) ∧ 0 ≤ 1) ∧ (∀ M : Mem, (0 : Int) ≤ (2 : Int) ∧ (2 : Int) < (6 : Int)) ∧ (∀ M : Mem, 2 + 1 ≤ 6) ∧ K [.rnd [0,0,1,0,1,1] M, .blk 0, .at [1,1,1]] (St.mk [(2, .v (vu64 (↑x : Int))), (3, .p 0 0), (4, .p 1 0), (6, .p 2 0), (7, .v (vu64 (IntKind.wrap IntKind.u64 (IntKind.wrap IntKind.u64 ((↑(mulHi x_1 y) : Int) + (↑(adHi (mulLo x_1 y) c 0) : Int)) + (↑(adHi t2 (adLo (mulLo x_1 y) c 0) 0) : Int))))), (13, .v (vi64 3))] [.cells [.v (vu64 (↑t0 : Int)), .v (vu64 (↑t1 : Int)), .v (vu64 (↑(adLo t2 (adLo (mulLo x_1 y) c 0) 0) : Int)), .v (vu64 (↑t3 : Int)), .v (vu64 (↑t4 : Int)), .v (vu64 (↑t5 : Int))] 235, .cells [.v (vu64 (↑(limb a 0) : Int)), .v (vu64 (↑(limb a 1) : Int)), .v (vu64 (↑(limb a 2) : Int)), .v (vu64 (↑(limb a 3) : Int))] 56, .cells [.v (vu64 0), .v (vu64 0), .v (vu64 0), .v (vu64 0), .v (vu64 0), .v (vu64 0)] 235])) := by kernel_rfl
theorem acL3 (t0 t1 t2 t3 t4 t5 x c a M : Nat) (K : List It → St → Prop) (R : SV → List HO → Prop) : W (xwp Try.prog X K24 [] 60 (fxOf Try.f147 [] [⟨[0,1,0,1,1], [2,3,4,6,7,13], []⟩]) [] (.at [0,0,1,0,1,1] :: .rnd [0,0,1,0,1,1] M :: [.blk 0, .at [1,1,1]]) ⟨[(2, .v (.int .u64 (x : Nat))), (3, .p 0 0), (4, .p 1 0), (6, .p 2 0), (7, .v (.int .u64 (c : Nat))), (13, .v (.int .i64 3))], [.cells [.v (.int .u64 (t0 : Nat)), .v (.int .u64 (t1 : Nat)), .v (.int .u64 (t2 : Nat)), .v (.int .u64 (t3 : Nat)), .v (.int .u64 (t4 : Nat)), .v (.int .u64 (t5 : Nat))] 235, .cells [.v (.int .u64 (limb a 0 : Nat)), .v (.int .u64 (limb a 1 : Nat)), .v (.int .u64 (limb a 2 : Nat)), .v (.int .u64 (limb a 3 : Nat))] 56, .cells [.v (.int .u64 0), .v (.int .u64 0), .v (.int .u64 0), .v (.int .u64 0), .v (.int .u64 0), .v (.int .u64 0)] 235]⟩ K R) = W ((∀ M : Mem, (0 : Int) ≤ (3 : Int) ∧ (3 : Int) < (4 : Int)) ∧ w2C [(↑(limb a 3) : Int), (↑x : Int)] fun (x_1 y : Nat) => (∀ M : Mem, (0 : Int) ≤ (↑(mulLo x_1 y) : Int) ∧ (0 : Int) ≤ (↑c : Int) ∧ (0 : Int) ≤ (0 : Int) ∧ 0 ≤ 1) ∧ (∀ M : Mem, (0 : Int) ≤ (3 : Int) ∧ (3 : Int) < (6 : Int)) ∧ (∀ M : Mem, (0 : Int) ≤ (↑t3 : Int) ∧ (0 : Int) ≤ (↑(adLo (mulLo x_1 y) c 0) : Int) ∧ (0 : Int) ≤ (0 : Int) ∧ 0 ≤ 1) ∧ (∀ M : Mem, (0 : Int) ≤ (3 : Int) ∧ (3 : Int) < (6 : Int)) ∧ (∀ M : Mem, 3 + 1 ≤ 6) ∧ K [.rnd [0,0,1,0,1,1] M, .blk 0, .at [1,1,1]] (St.mk [(2, .v (vu64 (↑x : Int))), (3, .p 0 0), (4, .p 1 0), (6, .p 2 0), (7, .v (vu64 (IntKind.wrap IntKind.u64 (IntKind.wrap IntKind.u64 ((↑(mulHi x_1 y) : Int) + (↑(adHi (mulLo x_1 y) c 0) : Int)) + (↑(adHi t3 (adLo (mulLo x_1 y) c 0) 0) : Int))))), (13, .v (vi64 4))] [.cells [.v (vu64 (↑t0 : Int)), .v (vu64 (↑t1 : Int)), .v (vu64 (↑t2 : Int)), .v (vu64 (↑(adLo t3 (adLo (mulLo x_1 y) c 0) 0) : Int)), .v (vu64 (↑t4 : Int)), .v (vu64 (↑t5 : Int))] 235, .cells [.v (vu64 (↑(limb a 0) : Int)), .v (vu64 (↑(limb a 1) : Int)), .v (vu64 (↑(limb a 2) : Int)), .v (vu64 (↑(limb a 3) : Int))] 56, .cells [.v (vu64 0), .v (vu64 0), .v (vu64 0), .v (vu64 0), .v (vu64 0), .v (vu64 0)] 235])) := by kernel_rfl
theorem acL4 (t0 t1 t2 t3 t4 t5 x c a M : Nat) (K : List It → St → Prop) (R : SV → List HO → Prop) : W (xwp Try.prog X K24 [] 60 (fxOf Try.f147 [] [⟨[0,1,0,1,1], [2,3,4,6,7,13], []⟩]) [] (.at [0,0,1,0,1,1] :: .rnd [0,0,1,0,1,1] M :: [.blk 0, .at [1,1,1]]) ⟨[(2, .v (.int .u64 (x : Nat))), (3, .p 0 0), (4, .p 1 0), (6, .p 2 0), (7, .v (.int .u64 (c : Nat))), (13, .v (.int .i64 4))], [.cells [.v (.int .u64 (t0 : Nat)), .v (.int .u64 (t1 : Nat)), .v (.int .u64 (t2 : Nat)), .v (.int .u64 (t3 : Nat)), .v (.int .u64 (t4 : Nat)), .v (.int .u64 (t5 : Nat))] 235, .cells [.v (.int .u64 (limb a 0 : Nat)), .v (.int .u64 (limb a 1 : Nat)), .v (.int .u64 (limb a 2 : Nat)), .v (.int .u64 (limb a 3 : Nat))] 56, .cells [.v (.int .u64 0), .v (.int .u64 0), .v (.int .u64 0), .v (.int .u64 0), .v (.int .u64 0), .v (.int .u64 0)] 235]⟩ K R) = W ((∀ M : Mem, (0 : Int) ≤ (4 : Int) ∧ (4 : Int) < (6 : Int)) ∧ (∀ M : Mem, (0 : Int) ≤ (↑t4 : Int) ∧ (0 : Int) ≤ (↑c : Int) ∧ (0 : Int) ≤ (0 : Int) ∧ 0 ≤ 1) ∧ (∀ M : Mem, (0 : Int) ≤ (4 : Int) ∧ (4 : Int) < (6 : Int)) ∧ (∀ M : Mem, 4 + 1 ≤ 6) ∧ (∀ M : Mem, (0 : Int) ≤ (5 : Int) ∧ (5 : Int) < (6 : Int)) ∧ (∀ M : Mem, (0 : Int) ≤ (5 : Int) ∧ (5 : Int) < (6 : Int)) ∧ (∀ M : Mem, 5 + 1 ≤ 6) ∧ (∀ M : Mem, 0 + 6 ≤ 6) ∧ R (.agg [.v (vu64 (↑t0 : Int)), .v (vu64 (↑t1 : Int)), .v (vu64 (↑t2 : Int)), .v (vu64 (↑t3 : Int)), .v (vu64 (↑(adLo t4 c 0) : Int)), .v (vu64 (IntKind.wrap IntKind.u64 ((↑t5 : Int) + (↑(adHi t4 c 0) : Int))))]) []) := by kernel_rfl
theorem bAc : Try.f147.body.isSome = true := by kernel_rfl
theorem nAc (t a x : Nat) : Nat.ble [eS6 t, eS a, .v (.int .u64 (x : Nat))].length Try.f147.ntmps = true := by kernel_rfl
theorem ac4 (r0 r1 r2 r3 t4 t5 x c4 a : Nat) (h4 : t4 < 18446744073709551616) (h5 : t5 + adHi t4 c4 0 < 18446744073709551616) (hc : c4 < 18446744073709551616) (Q : SV → List HO → Prop) (hq : Q (.agg [.v (.int .u64 (r0 : Nat)), .v (.int .u64 (r1 : Nat)), .v (.int .u64 (r2 : Nat)), .v (.int .u64 (r3 : Nat)), .v (.int .u64 (adLo t4 c4 0 : Nat)), .v (.int .u64 (t5 + adHi t4 c4 0 : Nat))]) []) :
    FOk Try.prog Try.f147 Q (.rnd [0,0,1,0,1,1] 1 :: [.blk 0, .at [1, 1, 1]]) ⟨[(2, .v (.int .u64 (x : Nat))), (3, .p 0 0), (4, .p 1 0), (6, .p 2 0), (7, .v (.int .u64 (c4 : Nat))), (13, .v (.int .i64 4))], [.cells [.v (.int .u64 (r0 : Nat)), .v (.int .u64 (r1 : Nat)), .v (.int .u64 (r2 : Nat)), .v (.int .u64 (r3 : Nat)), .v (.int .u64 (t4 : Nat)), .v (.int .u64 (t5 : Nat))] 235, .cells [.v (.int .u64 (limb a 0 : Nat)), .v (.int .u64 (limb a 1 : Nat)), .v (.int .u64 (limb a 2 : Nat)), .v (.int .u64 (limb a 3 : Nat))] 56, .cells [.v (.int .u64 0), .v (.int .u64 0), .v (.int .u64 0), .v (.int .u64 0), .v (.int .u64 0), .v (.int .u64 0)] 235]⟩ := by
  refine FOk.rnd (run_sound hm 60 ((acL4 r0 r1 r2 r3 t4 t5 x c4 a 0 _ _).mpr ⟨?_⟩))
  simp only [forall_const]
  rw [addNN, wrapN _ h5]
  repeat' (first | refine And.intro ?_ ?_)
  all_goals first
    | omega
    | exact hq
theorem ac3 (r0 r1 r2 t3 t4 t5 x c3 a : Nat) (h3 : t3 < 18446744073709551616) (h4 : t4 < 18446744073709551616) (hx : x < 18446744073709551616) (hc : c3 < 18446744073709551616) (Q : SV → List HO → Prop)
    (hq : ∀ r3 c4 : Nat, t3 + limb a 3 * x + c3 = r3 + 18446744073709551616 * c4 → r3 < 18446744073709551616 → c4 < 18446744073709551616 → t5 + adHi t4 c4 0 < 18446744073709551616 ∧ Q (.agg [.v (.int .u64 (r0 : Nat)), .v (.int .u64 (r1 : Nat)), .v (.int .u64 (r2 : Nat)), .v (.int .u64 (r3 : Nat)), .v (.int .u64 (adLo t4 c4 0 : Nat)), .v (.int .u64 (t5 + adHi t4 c4 0 : Nat))]) []) :
    FOk Try.prog Try.f147 Q (.rnd [0,0,1,0,1,1] 2 :: [.blk 0, .at [1, 1, 1]]) ⟨[(2, .v (.int .u64 (x : Nat))), (3, .p 0 0), (4, .p 1 0), (6, .p 2 0), (7, .v (.int .u64 (c3 : Nat))), (13, .v (.int .i64 3))], [.cells [.v (.int .u64 (r0 : Nat)), .v (.int .u64 (r1 : Nat)), .v (.int .u64 (r2 : Nat)), .v (.int .u64 (t3 : Nat)), .v (.int .u64 (t4 : Nat)), .v (.int .u64 (t5 : Nat))] 235, .cells [.v (.int .u64 (limb a 0 : Nat)), .v (.int .u64 (limb a 1 : Nat)), .v (.int .u64 (limb a 2 : Nat)), .v (.int .u64 (limb a 3 : Nat))] 56, .cells [.v (.int .u64 0), .v (.int .u64 0), .v (.int .u64 0), .v (.int .u64 0), .v (.int .u64 0), .v (.int .u64 0)] 235]⟩ := by
  refine FOk.rnd (run_sound hm 60 ((acL3 r0 r1 r2 t3 t4 t5 x c3 a 1 _ _).mpr ⟨?_⟩))
  refine And.intro (fun _ => by omega) (w2C_mk _ x (limb_lt a 3) hx ?_)
  obtain ⟨r3, c4, e1, e2, e3, e4, e5⟩ := acStep t3 (limb a 3) x c3 h3 (limb_lt a 3) hx hc
  rw [e1, e2]
  refine And.intro (fun _ => by omega) (And.intro (fun _ => by omega) (And.intro (fun _ => by omega) (And.intro (fun _ => by omega) (And.intro (fun _ => by omega) ?_))))
  obtain ⟨q1, q2⟩ := hq r3 c4 e3 e4 e5
  exact ac4 r0 r1 r2 r3 t4 t5 x c4 a h4 q1 e5 Q q2
theorem ac2 (r0 r1 t2 t3 t4 t5 x c2 a : Nat) (h2 : t2 < 18446744073709551616) (h3 : t3 < 18446744073709551616) (h4 : t4 < 18446744073709551616) (hx : x < 18446744073709551616) (hc : c2 < 18446744073709551616) (Q : SV → List HO → Prop)
    (hq : ∀ r2 r3 c3 c4 : Nat, t2 + limb a 2 * x + c2 = r2 + 18446744073709551616 * c3 → r2 < 18446744073709551616 → t3 + limb a 3 * x + c3 = r3 + 18446744073709551616 * c4 → r3 < 18446744073709551616 → c4 < 18446744073709551616 → t5 + adHi t4 c4 0 < 18446744073709551616 ∧ Q (.agg [.v (.int .u64 (r0 : Nat)), .v (.int .u64 (r1 : Nat)), .v (.int .u64 (r2 : Nat)), .v (.int .u64 (r3 : Nat)), .v (.int .u64 (adLo t4 c4 0 : Nat)), .v (.int .u64 (t5 + adHi t4 c4 0 : Nat))]) []) :
    FOk Try.prog Try.f147 Q (.rnd [0,0,1,0,1,1] 3 :: [.blk 0, .at [1, 1, 1]]) ⟨[(2, .v (.int .u64 (x : Nat))), (3, .p 0 0), (4, .p 1 0), (6, .p 2 0), (7, .v (.int .u64 (c2 : Nat))), (13, .v (.int .i64 2))], [.cells [.v (.int .u64 (r0 : Nat)), .v (.int .u64 (r1 : Nat)), .v (.int .u64 (t2 : Nat)), .v (.int .u64 (t3 : Nat)), .v (.int .u64 (t4 : Nat)), .v (.int .u64 (t5 : Nat))] 235, .cells [.v (.int .u64 (limb a 0 : Nat)), .v (.int .u64 (limb a 1 : Nat)), .v (.int .u64 (limb a 2 : Nat)), .v (.int .u64 (limb a 3 : Nat))] 56, .cells [.v (.int .u64 0), .v (.int .u64 0), .v (.int .u64 0), .v (.int .u64 0), .v (.int .u64 0), .v (.int .u64 0)] 235]⟩ := by
  refine FOk.rnd (run_sound hm 60 ((acL2 r0 r1 t2 t3 t4 t5 x c2 a 2 _ _).mpr ⟨?_⟩))
  refine And.intro (fun _ => by omega) (w2C_mk _ x (limb_lt a 2) hx ?_)
  obtain ⟨r2, c3, e1, e2, e3, e4, e5⟩ := acStep t2 (limb a 2) x c2 h2 (limb_lt a 2) hx hc
  rw [e1, e2]
  refine And.intro (fun _ => by omega) (And.intro (fun _ => by omega) (And.intro (fun _ => by omega) (And.intro (fun _ => by omega) (And.intro (fun _ => by omega) ?_))))
  refine ac3 r0 r1 r2 t3 t4 t5 x c3 a h3 h4 hx e5 Q ?_
  intro r3 c4 k3 l3 l
  exact hq r2 r3 c3 c4 e3 e4 k3 l3 l
theorem ac1 (r0 t1 t2 t3 t4 t5 x c1 a : Nat) (h1 : t1 < 18446744073709551616) (h2 : t2 < 18446744073709551616) (h3 : t3 < 18446744073709551616) (h4 : t4 < 18446744073709551616) (hx : x < 18446744073709551616) (hc : c1 < 18446744073709551616) (Q : SV → List HO → Prop)
    (hq : ∀ r1 r2 r3 c2 c3 c4 : Nat, t1 + limb a 1 * x + c1 = r1 + 18446744073709551616 * c2 → r1 < 18446744073709551616 → t2 + limb a 2 * x + c2 = r2 + 18446744073709551616 * c3 → r2 < 18446744073709551616 → t3 + limb a 3 * x + c3 = r3 + 18446744073709551616 * c4 → r3 < 18446744073709551616 → c4 < 18446744073709551616 → t5 + adHi t4 c4 0 < 18446744073709551616 ∧ Q (.agg [.v (.int .u64 (r0 : Nat)), .v (.int .u64 (r1 : Nat)), .v (.int .u64 (r2 : Nat)), .v (.int .u64 (r3 : Nat)), .v (.int .u64 (adLo t4 c4 0 : Nat)), .v (.int .u64 (t5 + adHi t4 c4 0 : Nat))]) []) :
    FOk Try.prog Try.f147 Q (.rnd [0,0,1,0,1,1] 4 :: [.blk 0, .at [1, 1, 1]]) ⟨[(2, .v (.int .u64 (x : Nat))), (3, .p 0 0), (4, .p 1 0), (6, .p 2 0), (7, .v (.int .u64 (c1 : Nat))), (13, .v (.int .i64 1))], [.cells [.v (.int .u64 (r0 : Nat)), .v (.int .u64 (t1 : Nat)), .v (.int .u64 (t2 : Nat)), .v (.int .u64 (t3 : Nat)), .v (.int .u64 (t4 : Nat)), .v (.int .u64 (t5 : Nat))] 235, .cells [.v (.int .u64 (limb a 0 : Nat)), .v (.int .u64 (limb a 1 : Nat)), .v (.int .u64 (limb a 2 : Nat)), .v (.int .u64 (limb a 3 : Nat))] 56, .cells [.v (.int .u64 0), .v (.int .u64 0), .v (.int .u64 0), .v (.int .u64 0), .v (.int .u64 0), .v (.int .u64 0)] 235]⟩ := by
  refine FOk.rnd (run_sound hm 60 ((acL1 r0 t1 t2 t3 t4 t5 x c1 a 3 _ _).mpr ⟨?_⟩))
  refine And.intro (fun _ => by omega) (w2C_mk _ x (limb_lt a 1) hx ?_)
  obtain ⟨r1, c2, e1, e2, e3, e4, e5⟩ := acStep t1 (limb a 1) x c1 h1 (limb_lt a 1) hx hc
  rw [e1, e2]
  refine And.intro (fun _ => by omega) (And.intro (fun _ => by omega) (And.intro (fun _ => by omega) (And.intro (fun _ => by omega) (And.intro (fun _ => by omega) ?_))))
  refine ac2 r0 r1 t2 t3 t4 t5 x c2 a h2 h3 h4 hx e5 Q ?_
  intro r2 r3 c3 c4 k2 l2 k3 l3 l
  exact hq r1 r2 r3 c2 c3 c4 e3 e4 k2 l2 k3 l3 l
theorem ac0 (t0 t1 t2 t3 t4 t5 x c0 a : Nat) (h0 : t0 < 18446744073709551616) (h1 : t1 < 18446744073709551616) (h2 : t2 < 18446744073709551616) (h3 : t3 < 18446744073709551616) (h4 : t4 < 18446744073709551616) (hx : x < 18446744073709551616) (hc : c0 < 18446744073709551616) (Q : SV → List HO → Prop)
    (hq : ∀ r0 r1 r2 r3 c1 c2 c3 c4 : Nat, t0 + limb a 0 * x + c0 = r0 + 18446744073709551616 * c1 → r0 < 18446744073709551616 → t1 + limb a 1 * x + c1 = r1 + 18446744073709551616 * c2 → r1 < 18446744073709551616 → t2 + limb a 2 * x + c2 = r2 + 18446744073709551616 * c3 → r2 < 18446744073709551616 → t3 + limb a 3 * x + c3 = r3 + 18446744073709551616 * c4 → r3 < 18446744073709551616 → c4 < 18446744073709551616 → t5 + adHi t4 c4 0 < 18446744073709551616 ∧ Q (.agg [.v (.int .u64 (r0 : Nat)), .v (.int .u64 (r1 : Nat)), .v (.int .u64 (r2 : Nat)), .v (.int .u64 (r3 : Nat)), .v (.int .u64 (adLo t4 c4 0 : Nat)), .v (.int .u64 (t5 + adHi t4 c4 0 : Nat))]) []) :
    FOk Try.prog Try.f147 Q (.rnd [0,0,1,0,1,1] 5 :: [.blk 0, .at [1, 1, 1]]) ⟨[(2, .v (.int .u64 (x : Nat))), (3, .p 0 0), (4, .p 1 0), (6, .p 2 0), (7, .v (.int .u64 (c0 : Nat))), (13, .v (.int .i64 0))], [.cells [.v (.int .u64 (t0 : Nat)), .v (.int .u64 (t1 : Nat)), .v (.int .u64 (t2 : Nat)), .v (.int .u64 (t3 : Nat)), .v (.int .u64 (t4 : Nat)), .v (.int .u64 (t5 : Nat))] 235, .cells [.v (.int .u64 (limb a 0 : Nat)), .v (.int .u64 (limb a 1 : Nat)), .v (.int .u64 (limb a 2 : Nat)), .v (.int .u64 (limb a 3 : Nat))] 56, .cells [.v (.int .u64 0), .v (.int .u64 0), .v (.int .u64 0), .v (.int .u64 0), .v (.int .u64 0), .v (.int .u64 0)] 235]⟩ := by
  refine FOk.rnd (run_sound hm 60 ((acL0 t0 t1 t2 t3 t4 t5 x c0 a 4 _ _).mpr ⟨?_⟩))
  refine And.intro (fun _ => by omega) (w2C_mk _ x (limb_lt a 0) hx ?_)
  obtain ⟨r0, c1, e1, e2, e3, e4, e5⟩ := acStep t0 (limb a 0) x c0 h0 (limb_lt a 0) hx hc
  rw [e1, e2]
  refine And.intro (fun _ => by omega) (And.intro (fun _ => by omega) (And.intro (fun _ => by omega) (And.intro (fun _ => by omega) (And.intro (fun _ => by omega) ?_))))
  refine ac1 r0 t1 t2 t3 t4 t5 x c1 a h1 h2 h3 h4 hx e5 Q ?_
  intro r1 r2 r3 c2 c3 c4 k1 l1 k2 l2 k3 l3 l
  exact hq r0 r1 r2 r3 c1 c2 c3 c4 e3 e4 k1 l1 k2 l2 k3 l3 l
theorem ac_ok (t a x : Nat) (ha : a < top) (hx : x < 18446744073709551616) (ht : t + a * x < top6) (Q : SV → List HO → Prop) (hq : Q (eS6 (acN t a x)) []) : FnOk Try.prog 147 [eS6 t, eS a, .v (.int .u64 (x : Nat))] [] Q := by
  refine fn_of_ok Try.func147 bAc ?_ ?_
  · exact nAc t a x
  refine run_sound hm 60 ((acS (limb t 0) (limb t 1) (limb t 2) (limb t 3) (limb t 4) (limb t 5) x a _ _).mpr ⟨?_⟩)
  refine FOk.loop 5 (by kernel_rfl) (ac0 (limb t 0) (limb t 1) (limb t 2) (limb t 3) (limb t 4) (limb t 5) x 0 a (limb_lt _ _) (limb_lt _ _) (limb_lt _ _) (limb_lt _ _) (limb_lt _ _) hx (by omega) Q ?_)
  intro r0 r1 r2 r3 c1 c2 c3 c4 k0 l0 k1 l1 k2 l2 k3 l3 l
  have h4 := ad_eq (limb t 4) c4 0
  have hs := ac_sum (limb t 0) (limb t 1) (limb t 2) (limb t 3) (limb t 4) (limb t 5) (limb a 0) (limb a 1) (limb a 2) (limb a 3) x r0 r1 r2 r3 (adLo (limb t 4) c4 0) c1 c2 c3 c4 (adHi (limb t 4) c4 0) k0 k1 k2 k3 h4.1
  rw [nv6_limb t (by omega), nv_self a ha] at hs
  have hb : limb t 5 + adHi (limb t 4) c4 0 < 18446744073709551616 := by
    rw [hs] at ht
    simp only [nv6, top6] at ht
    omega
  refine ⟨hb, ?_⟩
  obtain ⟨f0, f1, f2, f3, f4, f5⟩ := limb_nv6 l0 l1 l2 l3 h4.2 hb
  rw [acN_eq, hs, eS6, f0, f1, f2, f3, f4, f5] at hq
  exact hq
noncomputable def gAc : List SV → List HO → Option ((SV → List HO → Prop) → Prop)
  | [.agg [.v (.int .u64 t0), .v (.int .u64 t1), .v (.int .u64 t2), .v (.int .u64 t3), .v (.int .u64 t4), .v (.int .u64 t5)], .agg [.v (.int .u64 a0), .v (.int .u64 a1), .v (.int .u64 a2), .v (.int .u64 a3)], .v (.int .u64 x)], [] => some fun Q => acC [t0, t1, t2, t3, t4, t5] [a0, a1, a2, a3] x fun t a x => Q (eS6 (acN t a x)) []
  | _, _ => none
theorem gAc_ok (args : List SV) (h : List HO) (tr : (SV → List HO → Prop) → Prop) (Q : SV → List HO → Prop) (hc : gAc args h = some tr) (ht : tr Q) : FnOk Try.prog 147 args h Q := by
  unfold gAc at hc
  split at hc
  · rename_i t0 t1 t2 t3 t4 t5 a0 a1 a2 a3 x
    simp only [Option.some.injEq] at hc
    subst hc
    obtain ⟨t, a, y, e1, e2, rfl, ha, hy, ht2, hq⟩ := ht.h
    simp only [List.cons.injEq, and_true] at e1 e2
    obtain ⟨rfl, rfl, rfl, rfl, rfl, rfl⟩ := e1
    obtain ⟨rfl, rfl, rfl, rfl⟩ := e2
    exact ac_ok t a y ha hy ht2 Q hq
  · cases hc
noncomputable def K25 : Con Try.prog := K24.add 147 gAc gAc_ok
end Go.Proofs.Ytlmjdcbhpffanaa
/- Montgomery's product. -/
namespace Go.Pl
open Go.Sx
theorem redStep (P a x g t : Nat) (hg : (g * P + 1) % 18446744073709551616 = 0) (ha : a < P) (hx : x < 18446744073709551616) (ht : t < 2 * P) (hP : 2 * P < top) :
    t + a * x < top6 ∧ (limb (acN t a x) 0 * g) % 18446744073709551616 < 18446744073709551616 ∧ acN t a x + P * ((limb (acN t a x) 0 * g) % 18446744073709551616) < top6 ∧
    ∃ u m : Nat, u < 2 * P ∧ (limb (acN t a x) 0 * g) % 18446744073709551616 = m ∧ acN (acN t a x) P m = 18446744073709551616 * u ∧ 18446744073709551616 * u = t + a * x + P * m := by
  have h1 : a * x ≤ P * 18446744073709551615 := Nat.mul_le_mul (by omega) (by omega)
  have h2 : P * ((limb (acN t a x) 0 * g) % 18446744073709551616) ≤ P * 18446744073709551615 := Nat.mul_le_mul (Nat.le_refl _) (by omega)
  have h3 : limb (acN t a x) 0 = (t + a * x) % 18446744073709551616 := by rw [limb0, acN_eq]
  generalize hm : (limb (acN t a x) 0 * g) % 18446744073709551616 = m at *
  have h4 : (t + a * x + P * m) % 18446744073709551616 = 0 := by
    have e : P * m % 18446744073709551616 = limb (acN t a x) 0 * (g * P) % 18446744073709551616 := by
      rw [← hm, Nat.mul_mod_mod, ← Nat.mul_assoc, Nat.mul_comm P, Nat.mul_assoc, Nat.mul_comm P g]
    have e2 : limb (acN t a x) 0 * (g * P + 1) % 18446744073709551616 = 0 := by rw [Nat.mul_mod, hg, Nat.mul_zero, Nat.zero_mod]
    rw [Nat.mul_add, Nat.mul_one] at e2
    generalize limb (acN t a x) 0 * (g * P) = w at *
    rw [h3] at e2
    generalize t + a * x = v at *
    omega
  refine ⟨?_, by omega, ?_, (t + a * x + P * m) / 18446744073709551616, m, ?_, rfl, ?_, ?_⟩
  · simp only [top, top6] at *; omega
  · rw [acN_eq]; simp only [top, top6] at *; omega
  · omega
  · rw [acN_eq, acN_eq]; omega
  · omega
theorem eI6_shift (u : Nat) : [(limb (18446744073709551616 * u) 1 : Int), (limb (18446744073709551616 * u) 2 : Int), (limb (18446744073709551616 * u) 3 : Int), (limb (18446744073709551616 * u) 4 : Int), (limb (18446744073709551616 * u) 5 : Int), 0] = eI6 u ∨ 2135987035920910082395021706169552114602704522356652769947041607822219725780640550022962086936576 ≤ u := by
  by_cases h5 : 2135987035920910082395021706169552114602704522356652769947041607822219725780640550022962086936576 ≤ u
  · exact .inr h5
  · refine .inl ?_
    have e : (18446744073709551616 * u) / 18446744073709551616 = u := by omega
    have s : ∀ i, limb (18446744073709551616 * u) (i + 1) = limb u i := fun i => by
      rw [limb, limb, hide_eq, hide_eq, Nat.pow_succ, Nat.mul_comm _ 18446744073709551616, ← Nat.div_div_eq_div_mul, e]
    have z : limb u 5 = 0 := by rw [limb5]; omega
    rw [show (1 : Nat) = 0 + 1 from rfl, s 0, show (2 : Nat) = 1 + 1 from rfl, s 1, show (3 : Nat) = 2 + 1 from rfl, s 2, show (4 : Nat) = 3 + 1 from rfl, s 3, show (5 : Nat) = 4 + 1 from rfl, s 4, eI6, z]
    rfl
def Ri (P : Nat) : Nat := if P = 28948022309329048855892746252171976963363056481941560715954676764349967630337 then 15353493766103302224812374511606760489073247795810767472367693728416386214313 else 14238205147845459960272226733876560297615832660064601289232577236146637664127
noncomputable def fG (P a b : Nat) : Nat := hide (a * b * Ri P % P)
theorem fG_eq (P a b : Nat) : fG P a b = a * b * Ri P % P := hide_eq _
theorem mont_sum (P a b0 b1 b2 b3 u1 u2 u3 u4 m0 m1 m2 m3 : Nat) (h0 : 18446744073709551616 * u1 = 0 + a * b0 + P * m0) (h1 : 18446744073709551616 * u2 = u1 + a * b1 + P * m1) (h2 : 18446744073709551616 * u3 = u2 + a * b2 + P * m2) (h3 : 18446744073709551616 * u4 = u3 + a * b3 + P * m3) :
    u4 * top = a * nv b0 b1 b2 b3 + P * nv m0 m1 m2 m3 := by
  have e1 : a * nv b0 b1 b2 b3 = a * b0 + 18446744073709551616 * (a * b1) + 340282366920938463463374607431768211456 * (a * b2) + 6277101735386680763835789423207666416102355444464034512896 * (a * b3) := by
    simp only [nv, Nat.mul_add]
    rw [Nat.mul_left_comm a 18446744073709551616, Nat.mul_left_comm a 340282366920938463463374607431768211456, Nat.mul_left_comm a 6277101735386680763835789423207666416102355444464034512896]
  have e2 : P * nv m0 m1 m2 m3 = P * m0 + 18446744073709551616 * (P * m1) + 340282366920938463463374607431768211456 * (P * m2) + 6277101735386680763835789423207666416102355444464034512896 * (P * m3) := by
    simp only [nv, Nat.mul_add]
    rw [Nat.mul_left_comm P 18446744073709551616, Nat.mul_left_comm P 340282366920938463463374607431768211456, Nat.mul_left_comm P 6277101735386680763835789423207666416102355444464034512896]
  rw [e1, e2]
  simp only [top]
  omega
theorem mont_end (P a b u M : Nat) (hu : u < 2 * P) (h : u * top = a * b + P * M) (hr : top * Ri P % P = 1 % P) : (if P ≤ u then u - P else u) = fG P a b := by
  have e1 : u % P = fG P a b := by
    rw [fG_eq]
    have : (a * b + P * M) * Ri P % P = a * b * Ri P % P := by
      rw [Nat.add_mul, Nat.mul_assoc P, Nat.add_mul_mod_self_left]
    rw [← this, ← h, Nat.mul_assoc, Nat.mul_mod, hr, ← Nat.mul_mod, Nat.mul_one]
  rw [← e1]
  split
  · rename_i h; rw [Nat.mod_eq_sub_mod h, Nat.mod_eq_of_lt (by omega)]
  · rename_i h; rw [Nat.mod_eq_of_lt (by omega)]
theorem Ri_P2 : top * Ri 28948022309329048855892746252171976963363056481941560715954676764349967630337 % 28948022309329048855892746252171976963363056481941560715954676764349967630337 = 1 % 28948022309329048855892746252171976963363056481941560715954676764349967630337 := by decide +kernel
theorem Ri_P3 : top * Ri 28948022309329048855892746252171976963363056481941647379679742748393362948097 % 28948022309329048855892746252171976963363056481941647379679742748393362948097 = 1 % 28948022309329048855892746252171976963363056481941647379679742748393362948097 := by decide +kernel
structure rcC (ns ds es : List Int) (k : Nat → Nat → Nat → Prop) : Prop where
  h : ∃ P a b : Nat, isNm ns P ∧ 16521217 < P ∧ ds = eI a ∧ es = eI b ∧ a < P ∧ b < top ∧ k P a b
theorem rcC_mk {ns : List Int} {k : Nat → Nat → Nat → Prop} (P a b : Nat) (hn : isNm ns P) (hg : 16521217 < P) (ha : a < P) (hb : b < top) (h : k P a b) : rcC ns (eI a) (eI b) k := ⟨⟨P, a, b, hn, hg, rfl, rfl, ha, hb, h⟩⟩
theorem wrapMM (a b : Nat) : IntKind.wrap IntKind.u64 ((a : Int) * (b : Int)) = ((a * b % 18446744073709551616 : Nat) : Int) := by
  rw [mulN, wrapM]
theorem eI6_zero : [(0 : Int), 0, 0, 0, 0, 0] = eI6 0 := by simp only [eI6, limb_zero]; rfl
end Go.Pl
namespace Go.Proofs.Ytlmjdcbhpffanaa
open Go.Sx Go.Pl
set_option linter.unusedVariables false
set_option maxRecDepth 100000
theorem mgS (P a b ng : Nat) (ad q0 q1 q2 q3 : Int) (K : List It → St → Prop) (R : SV → List HO → Prop) : W (xwp Try.prog X K25 [] 60 (fxOf Try.f146 [([0,1,0,1,1],5)] []) [] [.at []] ⟨argsS 0 [.agg [.v (.int .u64 (limb P 0 : Nat)), .v (.int .u64 (limb P 1 : Nat)), .v (.int .u64 (limb P 2 : Nat)), .v (.int .u64 (limb P 3 : Nat)), .v (.int .i64 ad), .v (.int .u64 0), .v (.int .u64 (ng : Nat)), .v (.int .u64 q0), .v (.int .u64 q1), .v (.int .u64 q2), .v (.int .u64 q3)], eS a, eS b], []⟩ K R) = W ((∀ M : Mem, (0 : Int) ≤ (0 : Int) ∧ (0 : Int) < (4 : Int)) ∧ acC [(0 : Int), (0 : Int), (0 : Int), (0 : Int), (0 : Int), (0 : Int)] (eI a) (↑(limb b 0) : Int) fun (t a_1 x : Nat) => (∀ M : Mem, 0 + 6 ≤ 6) ∧ (∀ M : Mem, (0 : Int) ≤ (0 : Int) ∧ (0 : Int) < (6 : Int)) ∧ acC (eI6 (acN t a_1 x)) (eI P) (IntKind.wrap IntKind.u64 ((↑(limb (acN t a_1 x) 0) : Int) * (↑ng : Int))) fun (t a_2 x : Nat) => (∀ M : Mem, 0 + 6 ≤ 6) ∧ (∀ M : Mem, (0 : Int) ≤ (1 : Int) ∧ (1 : Int) < (6 : Int)) ∧ (∀ M : Mem, (0 : Int) ≤ (2 : Int) ∧ (2 : Int) < (6 : Int)) ∧ (∀ M : Mem, (0 : Int) ≤ (3 : Int) ∧ (3 : Int) < (6 : Int)) ∧ (∀ M : Mem, (0 : Int) ≤ (4 : Int) ∧ (4 : Int) < (6 : Int)) ∧ (∀ M : Mem, (0 : Int) ≤ (5 : Int) ∧ (5 : Int) < (6 : Int)) ∧ (∀ M : Mem, 0 + 6 ≤ 6) ∧ (∀ M : Mem, (0 : Int) ≤ (1 : Int) ∧ (1 : Int) < (4 : Int)) ∧ acC [(↑(limb (acN t a_2 x) 1) : Int), (↑(limb (acN t a_2 x) 2) : Int), (↑(limb (acN t a_2 x) 3) : Int), (↑(limb (acN t a_2 x) 4) : Int), (↑(limb (acN t a_2 x) 5) : Int), (0 : Int)] (eI a) (↑(limb b 1) : Int) fun (t a_3 x : Nat) => (∀ M : Mem, 0 + 6 ≤ 6) ∧ (∀ M : Mem, (0 : Int) ≤ (0 : Int) ∧ (0 : Int) < (6 : Int)) ∧ acC (eI6 (acN t a_3 x)) (eI P) (IntKind.wrap IntKind.u64 ((↑(limb (acN t a_3 x) 0) : Int) * (↑ng : Int))) fun (t a_4 x : Nat) => (∀ M : Mem, 0 + 6 ≤ 6) ∧ (∀ M : Mem, (0 : Int) ≤ (1 : Int) ∧ (1 : Int) < (6 : Int)) ∧ (∀ M : Mem, (0 : Int) ≤ (2 : Int) ∧ (2 : Int) < (6 : Int)) ∧ (∀ M : Mem, (0 : Int) ≤ (3 : Int) ∧ (3 : Int) < (6 : Int)) ∧ (∀ M : Mem, (0 : Int) ≤ (4 : Int) ∧ (4 : Int) < (6 : Int)) ∧ (∀ M : Mem, (0 : Int) ≤ (5 : Int) ∧ (5 : Int) < (6 : Int)) ∧ (∀ M : Mem, 0 + 6 ≤ 6) ∧ (∀ M : Mem, (0 : Int) ≤ (2 : Int) ∧ (2 : Int) < (4 : Int)) ∧ acC [(↑(limb (acN t a_4 x) 1) : Int), (↑(limb (acN t a_4 x) 2) : Int), (↑(limb (acN t a_4 x) 3) : Int), (↑(limb (acN t a_4 x) 4) : Int), (↑(limb (acN t a_4 x) 5) : Int), (0 : Int)] (eI a) (↑(limb b 2) : Int) fun (t a_5 x : Nat) => (∀ M : Mem, 0 + 6 ≤ 6) ∧ (∀ M : Mem, (0 : Int) ≤ (0 : Int) ∧ (0 : Int) < (6 : Int)) ∧ acC (eI6 (acN t a_5 x)) (eI P) (IntKind.wrap IntKind.u64 ((↑(limb (acN t a_5 x) 0) : Int) * (↑ng : Int))) fun (t a_6 x : Nat) => (∀ M : Mem, 0 + 6 ≤ 6) ∧ (∀ M : Mem, (0 : Int) ≤ (1 : Int) ∧ (1 : Int) < (6 : Int)) ∧ (∀ M : Mem, (0 : Int) ≤ (2 : Int) ∧ (2 : Int) < (6 : Int)) ∧ (∀ M : Mem, (0 : Int) ≤ (3 : Int) ∧ (3 : Int) < (6 : Int)) ∧ (∀ M : Mem, (0 : Int) ≤ (4 : Int) ∧ (4 : Int) < (6 : Int)) ∧ (∀ M : Mem, (0 : Int) ≤ (5 : Int) ∧ (5 : Int) < (6 : Int)) ∧ (∀ M : Mem, 0 + 6 ≤ 6) ∧ (∀ M : Mem, (0 : Int) ≤ (3 : Int) ∧ (3 : Int) < (4 : Int)) ∧ acC [(↑(limb (acN t a_6 x) 1) : Int), (↑(limb (acN t a_6 x) 2) : Int), (↑(limb (acN t a_6 x) 3) : Int), (↑(limb (acN t a_6 x) 4) : Int), (↑(limb (acN t a_6 x) 5) : Int), (0 : Int)] (eI a) (↑(limb b 3) : Int) fun (t a x : Nat) => (∀ M : Mem, 0 + 6 ≤ 6) ∧ (∀ M : Mem, (0 : Int) ≤ (0 : Int) ∧ (0 : Int) < (6 : Int)) ∧ acC (eI6 (acN t a x)) (eI P) (IntKind.wrap IntKind.u64 ((↑(limb (acN t a x) 0) : Int) * (↑ng : Int))) fun (t a x : Nat) => (∀ M : Mem, 0 + 6 ≤ 6) ∧ (∀ M : Mem, (0 : Int) ≤ (1 : Int) ∧ (1 : Int) < (6 : Int)) ∧ (∀ M : Mem, (0 : Int) ≤ (2 : Int) ∧ (2 : Int) < (6 : Int)) ∧ (∀ M : Mem, (0 : Int) ≤ (3 : Int) ∧ (3 : Int) < (6 : Int)) ∧ (∀ M : Mem, (0 : Int) ≤ (4 : Int) ∧ (4 : Int) < (6 : Int)) ∧ (∀ M : Mem, (0 : Int) ≤ (5 : Int) ∧ (5 : Int) < (6 : Int)) ∧ (∀ M : Mem, 0 + 6 ≤ 6) ∧ (∀ M : Mem, (0 : Int) ≤ (4 : Int) ∧ (4 : Int) ≤ (6 : Int)) ∧ (∀ M : Mem, 4 ≤ 4) ∧ (∀ M : Mem, 0 + 4 ≤ 4) ∧ c2C [(↑(limb (acN t a x) 1) : Int), (↑(limb (acN t a x) 2) : Int), (↑(limb (acN t a x) 3) : Int), (↑(limb (acN t a x) 4) : Int)] (eI P) fun (a_7 b : Nat) => (∀ M : Mem, 0 + 4 ≤ 4) ∧ (∀ M : Mem, (0 : Int) ≤ (4 : Int) ∧ (4 : Int) < (6 : Int)) ∧ bif !(↑(limb (acN t a x) 5) : Int) == (0 : Int) then (∀ M : Mem, 0 + 4 ≤ 4) ∧ (∀ M : Mem, 0 + 4 ≤ 4) ∧ R ((eS (wsub a_7 b))) [] else bif !decide (a_7 < b) then (∀ M : Mem, 0 + 4 ≤ 4) ∧ (∀ M : Mem, 0 + 4 ≤ 4) ∧ R ((eS (wsub a_7 b))) [] else (∀ M : Mem, 0 + 4 ≤ 4) ∧ R (.agg [.v (vu64 (↑(limb (acN t a x) 1) : Int)), .v (vu64 (↑(limb (acN t a x) 2) : Int)), .v (vu64 (↑(limb (acN t a x) 3) : Int)), .v (vu64 (↑(limb (acN t a x) 4) : Int))]) []) := by kernel_rfl
theorem bMg : Try.f146.body.isSome = true := by kernel_rfl
theorem nMg (P a b ng : Nat) (ad q0 q1 q2 q3 : Int) : Nat.ble [SV.agg [.v (.int .u64 (limb P 0 : Nat)), .v (.int .u64 (limb P 1 : Nat)), .v (.int .u64 (limb P 2 : Nat)), .v (.int .u64 (limb P 3 : Nat)), .v (.int .i64 ad), .v (.int .u64 0), .v (.int .u64 (ng : Nat)), .v (.int .u64 q0), .v (.int .u64 q1), .v (.int .u64 q2), .v (.int .u64 q3)], eS a, eS b].length Try.f146.ntmps = true := by kernel_rfl
theorem mg_ok (P a b ng : Nat) (ad q0 q1 q2 q3 : Int) (hg : (ng * P + 1) % 18446744073709551616 = 0) (hP : 2 * P < top) (hr : top * Ri P % P = 1 % P) (ha : a < P) (hb : b < top) (Q : SV → List HO → Prop) (hq : Q (eS (fG P a b)) []) : FnOk Try.prog 146 [.agg [.v (.int .u64 (limb P 0 : Nat)), .v (.int .u64 (limb P 1 : Nat)), .v (.int .u64 (limb P 2 : Nat)), .v (.int .u64 (limb P 3 : Nat)), .v (.int .i64 ad), .v (.int .u64 0), .v (.int .u64 (ng : Nat)), .v (.int .u64 q0), .v (.int .u64 q1), .v (.int .u64 q2), .v (.int .u64 q3)], eS a, eS b] [] Q := by
  have ta : a < top := by omega
  have tp : P < top := by omega
  obtain ⟨a0, b0, c0, u1, m0, d0, em0, e0, s0⟩ := redStep P a (limb b 0) ng 0 hg ha (limb_lt b 0) (by omega) hP
  obtain ⟨a1, b1, c1, u2, m1, d1, em1, e1, s1⟩ := redStep P a (limb b 1) ng u1 hg ha (limb_lt b 1) d0 hP
  obtain ⟨a2, b2, c2, u3, m2, d2, em2, e2, s2⟩ := redStep P a (limb b 2) ng u2 hg ha (limb_lt b 2) d1 hP
  obtain ⟨a3, b3, c3, u4, m3, d3, em3, e3, s3⟩ := redStep P a (limb b 3) ng u3 hg ha (limb_lt b 3) d2 hP
  have hs := mont_sum P a (limb b 0) (limb b 1) (limb b 2) (limb b 3) u1 u2 u3 u4 m0 m1 m2 m3 s0 s1 s2 s3
  rw [nv_self b hb] at hs
  have he := mont_end P a b u4 _ d3 hs hr
  refine fn_of_ok Try.func146 bMg ?_ ?_
  · exact nMg P a b ng ad q0 q1 q2 q3
  refine run_sound hm 60 ((mgS P a b ng ad q0 q1 q2 q3 _ _).mpr ⟨?_⟩)
  rw [eI6_zero]
  refine And.intro (fun _ => by omega) ?_
  refine acC_mk 0 a (limb b 0) ta (limb_lt b 0) a0 (And.intro (fun _ => by omega) (And.intro (fun _ => by omega) (?_)))
  rw [wrapMM, em0]
  refine acC_mk (acN 0 a (limb b 0)) P m0 tp (by rw [← em0]; exact b0) (by rw [← em0]; exact c0) ?_
  refine And.intro (fun _ => by omega) (And.intro (fun _ => by omega) (And.intro (fun _ => by omega) (And.intro (fun _ => by omega) (And.intro (fun _ => by omega) (And.intro (fun _ => by omega) (And.intro (fun _ => by omega) (?_)))))))
  refine And.intro (fun _ => by omega) ?_
  rw [e0, (eI6_shift u1).resolve_right (by simp only [top] at hP; omega)]
  refine acC_mk u1 a (limb b 1) ta (limb_lt b 1) a1 (And.intro (fun _ => by omega) (And.intro (fun _ => by omega) (?_)))
  rw [wrapMM, em1]
  refine acC_mk (acN u1 a (limb b 1)) P m1 tp (by rw [← em1]; exact b1) (by rw [← em1]; exact c1) ?_
  refine And.intro (fun _ => by omega) (And.intro (fun _ => by omega) (And.intro (fun _ => by omega) (And.intro (fun _ => by omega) (And.intro (fun _ => by omega) (And.intro (fun _ => by omega) (And.intro (fun _ => by omega) (?_)))))))
  refine And.intro (fun _ => by omega) ?_
  rw [e1, (eI6_shift u2).resolve_right (by simp only [top] at hP; omega)]
  refine acC_mk u2 a (limb b 2) ta (limb_lt b 2) a2 (And.intro (fun _ => by omega) (And.intro (fun _ => by omega) (?_)))
  rw [wrapMM, em2]
  refine acC_mk (acN u2 a (limb b 2)) P m2 tp (by rw [← em2]; exact b2) (by rw [← em2]; exact c2) ?_
  refine And.intro (fun _ => by omega) (And.intro (fun _ => by omega) (And.intro (fun _ => by omega) (And.intro (fun _ => by omega) (And.intro (fun _ => by omega) (And.intro (fun _ => by omega) (And.intro (fun _ => by omega) (?_)))))))
  refine And.intro (fun _ => by omega) ?_
  rw [e2, (eI6_shift u3).resolve_right (by simp only [top] at hP; omega)]
  refine acC_mk u3 a (limb b 3) ta (limb_lt b 3) a3 (And.intro (fun _ => by omega) (And.intro (fun _ => by omega) (?_)))
  rw [wrapMM, em3]
  refine acC_mk (acN u3 a (limb b 3)) P m3 tp (by rw [← em3]; exact b3) (by rw [← em3]; exact c3) ?_
  refine And.intro (fun _ => by omega) (And.intro (fun _ => by omega) (And.intro (fun _ => by omega) (And.intro (fun _ => by omega) (And.intro (fun _ => by omega) (And.intro (fun _ => by omega) (And.intro (fun _ => by omega) (?_)))))))
  refine And.intro (fun _ => by omega) (And.intro (fun _ => by omega) (And.intro (fun _ => by omega) (?_)))
  have sh := (eI6_shift u4).resolve_right (by simp only [top] at hP; omega)
  simp only [eI6, List.cons.injEq, Int.natCast_inj, and_true] at sh
  obtain ⟨g0, g1, g2, g3, g4, _⟩ := sh
  have z : limb u4 4 = 0 := by rw [limb4]; simp only [top] at hP; omega
  rw [e3, g0, g1, g2, g3, g4, z]
  refine c2C_mk u4 P (by omega) tp (And.intro (fun _ => by omega) (And.intro (fun _ => by omega) (?_)))
  rw [show (!((0 : Nat) : Int) == (0 : Int)) = false from rfl, cond_false, cond_not, cond_dec]
  rw [← he] at hq
  refine ite_intro (fun h => ?_) (fun h => ?_)
  · rw [if_neg (by omega)] at hq
    exact And.intro (fun _ => by omega) hq
  · rw [if_pos (by omega)] at hq
    refine And.intro (fun _ => by omega) (And.intro (fun _ => by omega) ?_)
    rw [eS, wsub_limb u4 P (by omega) 0 (by omega), wsub_limb u4 P (by omega) 1 (by omega), wsub_limb u4 P (by omega) 2 (by omega), wsub_limb u4 P (by omega) 3 (by omega)]
    exact hq
noncomputable def gMg : List SV → List HO → Option ((SV → List HO → Prop) → Prop)
  | [.agg [.v (.int .u64 p0), .v (.int .u64 p1), .v (.int .u64 p2), .v (.int .u64 p3), .v (.int .i64 ad), .v (.int .u64 sm), .v (.int .u64 ng), .v (.int .u64 q0), .v (.int .u64 q1), .v (.int .u64 q2), .v (.int .u64 q3)], .agg [.v (.int .u64 a0), .v (.int .u64 a1), .v (.int .u64 a2), .v (.int .u64 a3)], .agg [.v (.int .u64 b0), .v (.int .u64 b1), .v (.int .u64 b2), .v (.int .u64 b3)]], [] => some fun Q => rcC [p0, p1, p2, p3, ad, sm, ng, q0, q1, q2, q3] [a0, a1, a2, a3] [b0, b1, b2, b3] fun P a b => Q (eS (fG P a b)) []
  | _, _ => none
theorem gMg_ok (args : List SV) (h : List HO) (tr : (SV → List HO → Prop) → Prop) (Q : SV → List HO → Prop) (hc : gMg args h = some tr) (ht : tr Q) : FnOk Try.prog 146 args h Q := by
  unfold gMg at hc
  split at hc
  · rename_i p0 p1 p2 p3 ad sm ng q0 q1 q2 q3 a0 a1 a2 a3 b0 b1 b2 b3
    simp only [Option.some.injEq] at hc
    subst hc
    obtain ⟨P, a, b, hn, hg, e1, e2, ha, hb, hq⟩ := ht.h
    simp only [List.cons.injEq, and_true] at e1 e2
    obtain ⟨rfl, rfl, rfl, rfl⟩ := e1
    obtain ⟨rfl, rfl, rfl, rfl⟩ := e2
    cases hn
    · omega
    · omega
    · have := mg_ok 28948022309329048855892746252171976963363056481941560715954676764349967630337 a b 11037532056220336127 32 10122100416058490895 15551789045973377255 8617542898466512152 679271340751763220 (by omega) (by simp only [top]; omega) Ri_P2 ha hb Q hq
      rw [limbP2.1, limbP2.2.1, limbP2.2.2.1, limbP2.2.2.2] at this
      exact this
    · have := mg_ok 28948022309329048855892746252171976963363056481941647379679742748393362948097 a b 10108024940646105087 32 18200867980676431887 7474641938123724515 9200329640471491984 679271340771891881 (by omega) (by simp only [top]; omega) Ri_P3 ha hb Q hq
      rw [limbP3.1, limbP3.2.1, limbP3.2.2.1, limbP3.2.2.2] at this
      exact this
  · cases hc
noncomputable def K26 : Con Try.prog := K25.add 146 gMg gMg_ok
end Go.Proofs.Ytlmjdcbhpffanaa
/- Products in the fields. -/
namespace Go.Pl
open Go.Sx
noncomputable def fM (P a b : Nat) : Nat := hide (a * b % P)
theorem fM_eq (P a b : Nat) : fM P a b = a * b % P := hide_eq _
theorem fM_lt {P : Nat} (hP : 2 < P) (a b : Nat) : fM P a b < P := by rw [fM_eq]; exact Nat.mod_lt _ (by omega)
noncomputable def fMu (s : Int) (a b : Nat) : Nat := if fP s = 0 then 0 else fM (fP s) a b
theorem isNm_sm (p0 p1 p2 p3 ad sm ng q0 q1 q2 q3 : Int) {P : Nat} (hn : isNm [p0, p1, p2, p3, ad, sm, ng, q0, q1, q2, q3] P) : sm = (P : Int) ∧ P ≤ 16521217 ∨ sm = 0 ∧ 16521217 < P ∧ ∃ S, S < P ∧ [q0, q1, q2, q3] = eI S ∧ S = top * top % P ∧ top * Ri P % P = 1 % P := by
  cases hn
  · exact .inl ⟨rfl, by omega⟩
  · exact .inl ⟨rfl, by omega⟩
  · refine .inr ⟨rfl, by omega, 4263855311831330276397237192126260515652039413828781833859739249380679483407, by omega, ?_, by decide +kernel, Ri_P2⟩
    have := nv_eS (n := 4263855311831330276397237192126260515652039413828781833859739249380679483407) (a := 10122100416058490895) (b := 15551789045973377255) (c := 8617542898466512152) (d := 679271340751763220) (by simp only [nv]) (by omega) (by omega) (by omega) (by omega)
    rw [eI, this.1, this.2.1, this.2.2.1, this.2.2.2]; rfl
  · refine .inr ⟨rfl, by omega, 4263855311957679929489659445116329028194309752796460188622876710448966664207, by omega, ?_, by decide +kernel, Ri_P3⟩
    have := nv_eS (n := 4263855311957679929489659445116329028194309752796460188622876710448966664207) (a := 18200867980676431887) (b := 7474641938123724515) (c := 9200329640471491984) (d := 679271340771891881) (by simp only [nv]) (by omega) (by omega) (by omega) (by omega)
    rw [eI, this.1, this.2.1, this.2.2.1, this.2.2.2]; rfl
theorem fG_lt {P : Nat} (hP : 2 < P) (a b : Nat) : fG P a b < P := by rw [fG_eq]; exact Nat.mod_lt _ (by omega)
theorem mod_l (P x y : Nat) : x % P * y % P = x * y % P := by rw [Nat.mul_mod, Nat.mod_mod, ← Nat.mul_mod]
theorem fG_two (P a b S : Nat) (hS : S = top * top % P) (hr : top * Ri P % P = 1 % P) : fG P (fG P (fR P a) (fR P b)) S = fM P a b := by
  rw [fM_eq, fG_eq, fG_eq, fR_eq, fR_eq, hS]
  have e1 : a % P * (b % P) * Ri P % P = a * b * Ri P % P := by
    rw [← mod_l P (a % P * (b % P)), ← Nat.mul_mod, mod_l]
  rw [e1]
  rw [Nat.mul_assoc, mod_l, ← Nat.mul_assoc]
  have e2 : a * b * Ri P * (top * top % P) * Ri P % P = a * b * (Ri P * top) * (Ri P * top) % P := by
    rw [Nat.mul_assoc (a * b * Ri P), Nat.mul_comm (top * top % P), ← Nat.mul_assoc, Nat.mul_mod_mod]
    congr 1
    simp only [Nat.mul_assoc, Nat.mul_comm, Nat.mul_left_comm]
  rw [e2, Nat.mul_mod, Nat.mul_comm (Ri P), hr, ← Nat.mul_mod, Nat.mul_one, Nat.mul_mod, hr, ← Nat.mul_mod, Nat.mul_one]
theorem small_mul {P : Nat} (hP : 2 < P) (hs : P ≤ 16521217) (a b : Nat) : SV.agg [SV.v (vu64 (Int.tmod (IntKind.wrap IntKind.u64 ((↑(limb (fR P a) 0) : Int) * (↑(limb (fR P b) 0) : Int))) (P : Int))), SV.v (vu64 (0 : Int)), SV.v (vu64 (0 : Int)), SV.v (vu64 (0 : Int))] = eS (fM P a b) := by
  have h1 := fR_lt' P a (by omega)
  have h2 := fR_lt' P b (by omega)
  have h3 := fM_lt hP a b
  obtain ⟨l0, l1, l2, l3⟩ := limb_small (fM P a b) (by omega)
  have hm : fR P a * fR P b ≤ 16521217 * 16521217 := Nat.mul_le_mul (by omega) (by omega)
  rw [(limb_small (fR P a) (by omega)).1, (limb_small (fR P b) (by omega)).1, mulN, wrapN _ (by omega), eS, l0, l1, l2, l3]
  rw [show Int.tmod ((fR P a * fR P b : Nat) : Int) (P : Int) = ((fR P a * fR P b % P : Nat) : Int) from rfl, fM_eq, fR_eq, fR_eq, ← Nat.mul_mod]
  rfl
end Go.Pl
namespace Go.Proofs.Ytlmjdcbhpffanaa
open Go.Sx Go.Pl
set_option linter.unusedVariables false
set_option maxRecDepth 100000
noncomputable def nmQ (p0 p1 p2 p3 ad sm ng q0 q1 q2 q3 : Int) (P a P_1 a_1 : Nat) (R : SV → List HO → Prop) : Prop := (∀ (M : Mem), 0 + 4 ≤ 4) ∧ (∀ (M : Mem), 0 + 4 ≤ 4) ∧ bif !sm == (0 : Int) then (∀ (M : Mem), (0 : Int) ≤ (0 : Int) ∧ (0 : Int) < (4 : Int)) ∧ (∀ (M : Mem), (0 : Int) ≤ (0 : Int) ∧ (0 : Int) < (4 : Int)) ∧ (∀ (M : Mem), ¬sm = (0 : Int)) ∧ (∀ (M : Mem), 0 + 4 ≤ 4) ∧ R (SV.agg [SV.v (vu64 (Int.tmod (IntKind.wrap IntKind.u64 ((↑(limb (fR P a) 0) : Int) * (↑(limb (fR P_1 a_1) 0) : Int))) sm)), SV.v (vu64 (0 : Int)), SV.v (vu64 (0 : Int)), SV.v (vu64 (0 : Int))]) [] else rcC [p0, p1, p2, p3, ad, sm, ng, q0, q1, q2, q3] (eI (fR P a)) (eI (fR P_1 a_1)) fun (P a b : Nat) => rcC [p0, p1, p2, p3, ad, sm, ng, q0, q1, q2, q3] (eI (fG P a b)) [q0, q1, q2, q3] fun (P a b : Nat) => (∀ (M : Mem), 0 + 4 ≤ 4) ∧ R ((eS (fG P a b))) []
theorem nmS (p0 p1 p2 p3 ad sm ng q0 q1 q2 q3 : Int) (a b : Nat) (K : List It → St → Prop) (R : SV → List HO → Prop) : W (xwp Try.prog X K26 [] 60 (fxOf Try.f145 [] []) [] [.at []] ⟨argsS 0 [.agg [.v (.int .u64 p0), .v (.int .u64 p1), .v (.int .u64 p2), .v (.int .u64 p3), .v (.int .i64 ad), .v (.int .u64 sm), .v (.int .u64 ng), .v (.int .u64 q0), .v (.int .u64 q1), .v (.int .u64 q2), .v (.int .u64 q3)], eS a, eS b], []⟩ K R) = W (reC [p0, p1, p2, p3, ad, sm, ng, q0, q1, q2, q3] (eI a) fun (P a : Nat) => reC [p0, p1, p2, p3, ad, sm, ng, q0, q1, q2, q3] (eI b) fun (P_1 a_1 : Nat) => nmQ p0 p1 p2 p3 ad sm ng q0 q1 q2 q3 P a P_1 a_1 R) := by kernel_rfl
theorem bNm : Try.f145.body.isSome = true := by kernel_rfl
theorem nNm (p0 p1 p2 p3 ad sm ng q0 q1 q2 q3 : Int) (a b : Nat) : Nat.ble [SV.agg [.v (.int .u64 p0), .v (.int .u64 p1), .v (.int .u64 p2), .v (.int .u64 p3), .v (.int .i64 ad), .v (.int .u64 sm), .v (.int .u64 ng), .v (.int .u64 q0), .v (.int .u64 q1), .v (.int .u64 q2), .v (.int .u64 q3)], eS a, eS b].length Try.f145.ntmps = true := by kernel_rfl
theorem nm_ok (p0 p1 p2 p3 ad sm ng q0 q1 q2 q3 : Int) (P a b : Nat) (hn : isNm [p0, p1, p2, p3, ad, sm, ng, q0, q1, q2, q3] P) (ha : a < top) (hb : b < top) (Q : SV → List HO → Prop) (hq : Q (eS (fM P a b)) []) : FnOk Try.prog 145 [.agg [.v (.int .u64 p0), .v (.int .u64 p1), .v (.int .u64 p2), .v (.int .u64 p3), .v (.int .i64 ad), .v (.int .u64 sm), .v (.int .u64 ng), .v (.int .u64 q0), .v (.int .u64 q1), .v (.int .u64 q2), .v (.int .u64 q3)], eS a, eS b] [] Q := by
  have hP := isNm_lt hn
  have la := fR_lt P a (by omega)
  have tb := (fR_top hP b).1
  refine fn_of_ok Try.func145 bNm ?_ ?_
  · exact nNm p0 p1 p2 p3 ad sm ng q0 q1 q2 q3 a b
  refine run_sound hm 60 ((nmS p0 p1 p2 p3 ad sm ng q0 q1 q2 q3 a b _ _).mpr ⟨?_⟩)
  rcases isNm_sm p0 p1 p2 p3 ad sm ng q0 q1 q2 q3 hn with ⟨hs, hl⟩ | ⟨hs, hg, S, hS, e1, e2, hr⟩
  · have h0 : ¬ sm = 0 := by omega
    rw [← small_mul (by omega) hl, ← hs] at hq
    have q : nmQ p0 p1 p2 p3 ad sm ng q0 q1 q2 q3 P a P b Q := by
      unfold nmQ
      simp only [cond_not, cond_beq, forall_const, if_neg h0]
      repeat' (first | refine And.intro ?_ ?_ | exact hq)
      all_goals first
        | exact h0
        | omega
    repeat' (first | exact q | refine And.intro ?_ ?_ | refine reC_mk P a hn ha ?_ | refine reC_mk P b hn hb ?_)
  · rw [← fG_two P a b S e2 hr] at hq
    have tg : fG P (fR P a) (fR P b) < P := fG_lt (by omega) _ _
    have q : nmQ p0 p1 p2 p3 ad sm ng q0 q1 q2 q3 P a P b Q := by
      unfold nmQ
      simp only [cond_not, cond_beq, forall_const, if_pos hs]
      refine And.intro (by omega) (And.intro (by omega) (rcC_mk P (fR P a) (fR P b) hn hg la tb ?_))
      exact ⟨⟨P, fG P (fR P a) (fR P b), S, hn, hg, rfl, e1, tg, by omega, And.intro (by omega) hq⟩⟩
    repeat' (first | exact q | refine And.intro ?_ ?_ | refine reC_mk P a hn ha ?_ | refine reC_mk P b hn hb ?_)
noncomputable def gNm : List SV → List HO → Option ((SV → List HO → Prop) → Prop)
  | [.agg [.v (.int .u64 p0), .v (.int .u64 p1), .v (.int .u64 p2), .v (.int .u64 p3), .v (.int .i64 ad), .v (.int .u64 sm), .v (.int .u64 ng), .v (.int .u64 q0), .v (.int .u64 q1), .v (.int .u64 q2), .v (.int .u64 q3)], .agg [.v (.int .u64 a0), .v (.int .u64 a1), .v (.int .u64 a2), .v (.int .u64 a3)], .agg [.v (.int .u64 b0), .v (.int .u64 b1), .v (.int .u64 b2), .v (.int .u64 b3)]], [] => some fun Q => reC2 [p0, p1, p2, p3, ad, sm, ng, q0, q1, q2, q3] [a0, a1, a2, a3] [b0, b1, b2, b3] fun P a b => Q (eS (fM P a b)) []
  | _, _ => none
theorem gNm_ok (args : List SV) (h : List HO) (tr : (SV → List HO → Prop) → Prop) (Q : SV → List HO → Prop) (hc : gNm args h = some tr) (ht : tr Q) : FnOk Try.prog 145 args h Q := by
  unfold gNm at hc
  split at hc
  · rename_i p0 p1 p2 p3 ad sm ng q0 q1 q2 q3 a0 a1 a2 a3 b0 b1 b2 b3
    simp only [Option.some.injEq] at hc
    subst hc
    obtain ⟨P, a, b, hn, e1, e2, ha, hb, hq⟩ := ht.h
    simp only [List.cons.injEq, and_true] at e1 e2
    obtain ⟨rfl, rfl, rfl, rfl⟩ := e1
    obtain ⟨rfl, rfl, rfl, rfl⟩ := e2
    exact nm_ok p0 p1 p2 p3 ad sm ng q0 q1 q2 q3 P a b hn ha hb Q hq
  · cases hc
noncomputable def K27 : Con Try.prog := K26.add 145 gNm gNm_ok
end Go.Proofs.Ytlmjdcbhpffanaa
/- The fields' products, by the sort. -/
namespace Go.Proofs.Ytlmjdcbhpffanaa
open Go.Sx Go.Pl
set_option linter.unusedVariables false
set_option maxRecDepth 100000
theorem fmS (s : Int) (a b : Nat) (K : List It → St → Prop) (R : SV → List HO → Prop) : W (xwp Try.prog X K27 [(53, [])] 60 (fxOf Try.f144 [] []) [] [.at []] ⟨argsS 0 [.v (.int .i64 s), eS a, eS b], []⟩ K R) = W (bif s == (0 : Int) then (∀ M : Mem, 11 ≤ 11) ∧ (∀ M : Mem, 11 ≤ 11) ∧ reC2 [(16513537 : Int), (0 : Int), (0 : Int), (0 : Int), (9 : Int), (16513537 : Int), (0 : Int), (0 : Int), (0 : Int), (0 : Int), (0 : Int)] (eI a) (eI b) fun (P a b : Nat) => (∀ M : Mem, 0 + 4 ≤ 4) ∧ R ((eS (fM P a b))) [] else bif s == (1 : Int) then (∀ M : Mem, 11 ≤ 11) ∧ (∀ M : Mem, 11 ≤ 11) ∧ reC2 [(16521217 : Int), (0 : Int), (0 : Int), (0 : Int), (11 : Int), (16521217 : Int), (0 : Int), (0 : Int), (0 : Int), (0 : Int), (0 : Int)] (eI a) (eI b) fun (P a b : Nat) => (∀ M : Mem, 0 + 4 ≤ 4) ∧ R ((eS (fM P a b))) [] else bif s == (2 : Int) then (∀ M : Mem, 11 ≤ 11) ∧ (∀ M : Mem, 11 ≤ 11) ∧ reC2 [(11037532056220336129 : Int), (2469829653914515739 : Int), (0 : Int), (4611686018427387904 : Int), (32 : Int), (0 : Int), (11037532056220336127 : Int), (10122100416058490895 : Int), (15551789045973377255 : Int), (8617542898466512152 : Int), (679271340751763220 : Int)] (eI a) (eI b) fun (P a b : Nat) => (∀ M : Mem, 0 + 4 ≤ 4) ∧ R ((eS (fM P a b))) [] else bif s == (3 : Int) then (∀ M : Mem, 11 ≤ 11) ∧ (∀ M : Mem, 11 ≤ 11) ∧ reC2 [(10108024940646105089 : Int), (2469829653919213789 : Int), (0 : Int), (4611686018427387904 : Int), (32 : Int), (0 : Int), (10108024940646105087 : Int), (18200867980676431887 : Int), (7474641938123724515 : Int), (9200329640471491984 : Int), (679271340771891881 : Int)] (eI a) (eI b) fun (P a b : Nat) => (∀ M : Mem, 0 + 4 ≤ 4) ∧ R ((eS (fM P a b))) [] else (∀ M : Mem, 11 ≤ 11) ∧ (∀ M : Mem, 11 ≤ 11) ∧ (∀ M : Mem, 4 ≤ 4) ∧ R (.agg [.v (vu64 0), .v (vu64 0), .v (vu64 0), .v (vu64 0)]) []) := by kernel_rfl
theorem bFm : Try.f144.body.isSome = true := by kernel_rfl
theorem nFm (s : Int) (a b : Nat) : Nat.ble [SV.v (.int .i64 s), eS a, eS b].length Try.f144.ntmps = true := by kernel_rfl
theorem fm_ok (s : Int) (a b : Nat) (ha : a < top) (hb : b < top) (Q : SV → List HO → Prop) (hq : Q (eS (fMu s a b)) []) : FnOk Try.prog 144 [.v (.int .i64 s), eS a, eS b] [] Q := by
  refine fn_of_ok Try.func144 bFm ?_ ?_
  · exact nFm s a b
  refine run_sound hm 60 ((fmS s a b _ _).mpr ⟨?_⟩)
  simp only [cond_beq]
  refine ite_intro (fun h0 => ?_) (fun h0 => ?_)
  · subst h0
    exact And.intro (fun _ => by omega) (And.intro (fun _ => by omega) (reC2_mk _ a b .p ha hb ⟨fun _ => by omega, hq⟩))
  refine ite_intro (fun h1 => ?_) (fun h1 => ?_)
  · subst h1
    exact And.intro (fun _ => by omega) (And.intro (fun _ => by omega) (reC2_mk _ a b .q ha hb ⟨fun _ => by omega, hq⟩))
  refine ite_intro (fun h2 => ?_) (fun h2 => ?_)
  · subst h2
    exact And.intro (fun _ => by omega) (And.intro (fun _ => by omega) (reC2_mk _ a b .r ha hb ⟨fun _ => by omega, hq⟩))
  refine ite_intro (fun h3 => ?_) (fun h3 => ?_)
  · subst h3
    exact And.intro (fun _ => by omega) (And.intro (fun _ => by omega) (reC2_mk _ a b .t ha hb ⟨fun _ => by omega, hq⟩))
  refine And.intro (fun _ => by omega) (And.intro (fun _ => by omega) (And.intro (fun _ => by omega) ?_))
  rw [fMu, if_pos (fP_no h0 h1 h2 h3), eS_zero] at hq
  exact hq
noncomputable def gFm : List SV → List HO → Option ((SV → List HO → Prop) → Prop)
  | [.v (.int .i64 s), .agg [.v (.int .u64 a0), .v (.int .u64 a1), .v (.int .u64 a2), .v (.int .u64 a3)], .agg [.v (.int .u64 b0), .v (.int .u64 b1), .v (.int .u64 b2), .v (.int .u64 b3)]], [] => some fun Q => c2C [a0, a1, a2, a3] [b0, b1, b2, b3] fun a b => Q (eS (fMu s a b)) []
  | _, _ => none
theorem gFm_ok (args : List SV) (h : List HO) (tr : (SV → List HO → Prop) → Prop) (Q : SV → List HO → Prop) (hc : gFm args h = some tr) (ht : tr Q) : FnOk Try.prog 144 args h Q := by
  unfold gFm at hc
  split at hc
  · rename_i s a0 a1 a2 a3 b0 b1 b2 b3
    simp only [Option.some.injEq] at hc
    subst hc
    obtain ⟨a, b, e1, e2, ha, hb, hq⟩ := ht.h
    simp only [List.cons.injEq, and_true] at e1 e2
    obtain ⟨rfl, rfl, rfl, rfl⟩ := e1
    obtain ⟨rfl, rfl, rfl, rfl⟩ := e2
    exact fm_ok s a b ha hb Q hq
  · cases hc
noncomputable def K28 : Con Try.prog := K27.add 144 gFm gFm_ok
end Go.Proofs.Ytlmjdcbhpffanaa
