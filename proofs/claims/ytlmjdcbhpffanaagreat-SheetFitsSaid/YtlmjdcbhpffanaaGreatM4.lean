/- The texts Z55 .. Tx29 of this proof, one behind the other. -/
import Derived.Test.YtlmjdcbhpffanaaGreatM3
/- The degree, by the document. -/
namespace Go.Pl
open Go.Sx
theorem gtN_take {dg l : List Int} {k : Nat} {a : Int} (h : k < l.length) (ha : a = gtN dg (l.take k)) (hp : a < gI dg (gI l k).toNat) : gI dg (gI l k).toNat = gtN dg (l.take (k + 1)) := by
  rw [gtN_snoc h, ← ha, if_pos hp]
theorem gtN_keep {dg l : List Int} {k : Nat} {a : Int} (h : k < l.length) (ha : a = gtN dg (l.take k)) (hp : ¬ a < gI dg (gI l k).toNat) : a = gtN dg (l.take (k + 1)) := by
  rw [gtN_snoc h, ← ha, if_neg hp]
theorem mxI_pos {a b : Int} (h : a < b) : mxI a b = b := if_pos h
theorem mxI_neg {a b : Int} (h : ¬ a < b) : mxI a b = a := if_neg h
theorem gate_max {dg l : List Int} {k : Nat} (h : k < l.length) (a : Int) : mxI a (gtN dg (l.take (k + 1)) + 1) = mxI (mxI a (gtN dg (l.take k) + 1)) (gI dg (gI l k).toNat + 1) := by
  rw [gtN_snoc h]
  simp only [mxI]
  repeat' split
  all_goals omega
end Go.Pl
namespace Go.Proofs.YtlmjdcbhpffanaaGreat
open Go.Sx Go.Pl
set_option linter.unusedVariables false
set_option maxRecDepth 100000
theorem rdgS (c : Cir) (K : List It → St → Prop) (R : SV → List HO → Prop) : W (xwp Tryz.prog X K54 [] 60 (fxOf Tryz.f78 [] [⟨[0,1,0,1,1,1,1], [5,4,3,1], []⟩, ⟨[0,1,0,1,1,1,1,1], [6,4,3,1], []⟩, ⟨[0,1,0,1,1,0,0,1,0,0,1,0,1,1,1,1,1], [9,7,8,6,4,3,1], []⟩]) [] [.at []] ⟨argsS 0 [.agg [.v (.int .i64 c.fx), .v (.int .i64 c.ad), .v (.int .i64 c.ins), .x 0 [], .x 1 [], .x 2 [], .x 3 []]], [.ext false (.s false 7 c.nodes.length (cN c.nodes)), .ext false (.s false 1 c.gates.length (cI c.gates)), .ext false (.s false 2 c.looks.length (cL c.looks)), .ext false (.s false 2 c.eqs.length (cK c.eqs))]⟩ K R) = W (∃ (l : List Nd), List.length c.4 = List.length l ∧ IsC c.4.length 7 (cN c.4) (cN l) ∧ List.length l ≤ 4000000000000 ∧ bif decide ((0 : Int) < (↑c.6.length : Int)) then K [.at [0,1,0,1,1,1,1], .blk 0, .at [1,1,1,1,1]] (St.mk [(5, .v (vi64 0)), (4, .v (vi64 4)), (3, .o 0), (1, .p 1 0)] [.rowc 3 1 (List.length (degrees l)) (.fn (cI (degrees l))), .cells [.v (vi64 c.1), .v (vi64 c.2), .v (vi64 c.3), .x 2 [], .x 3 [], .x 4 [], .x 5 []] 27, .ext false (.s false 7 c.4.length (cN c.4)), .ext false (.s false 1 c.5.length (cI c.5)), .ext false (.s false 2 c.6.length (cL c.6)), .ext false (.s false 2 c.7.length (cK c.7))]) else bif decide ((0 : Int) < (↑c.7.length : Int)) then K [.at [0,1,0,1,1,1,1], .blk 0, .at [1,1,1,1,1]] (St.mk [(5, .v (vi64 0)), (4, .v (vi64 4)), (3, .o 0), (1, .p 1 0)] [.rowc 3 1 (List.length (degrees l)) (.fn (cI (degrees l))), .cells [.v (vi64 c.1), .v (vi64 c.2), .v (vi64 c.3), .x 2 [], .x 3 [], .x 4 [], .x 5 []] 27, .ext false (.s false 7 c.4.length (cN c.4)), .ext false (.s false 1 c.5.length (cI c.5)), .ext false (.s false 2 c.6.length (cL c.6)), .ext false (.s false 2 c.7.length (cK c.7))]) else K [.at [0,1,0,1,1,1,1], .blk 0, .at [1,1,1,1,1]] (St.mk [(5, .v (vi64 0)), (4, .v (vi64 3)), (3, .o 0), (1, .p 1 0)] [.rowc 3 1 (List.length (degrees l)) (.fn (cI (degrees l))), .cells [.v (vi64 c.1), .v (vi64 c.2), .v (vi64 c.3), .x 2 [], .x 3 [], .x 4 [], .x 5 []] 27, .ext false (.s false 7 c.4.length (cN c.4)), .ext false (.s false 1 c.5.length (cI c.5)), .ext false (.s false 2 c.6.length (cL c.6)), .ext false (.s false 2 c.7.length (cK c.7))])) := by kernel_rfl
theorem rdg1 (c : Cir) (dg : List Int) (m : Int) (k M : Nat) (K : List It → St → Prop) (R : SV → List HO → Prop) : W (xwp Tryz.prog X K54 [] 60 (fxOf Tryz.f78 [] [⟨[0,1,0,1,1,1,1], [5,4,3,1], []⟩, ⟨[0,1,0,1,1,1,1,1], [6,4,3,1], []⟩, ⟨[0,1,0,1,1,0,0,1,0,0,1,0,1,1,1,1,1], [9,7,8,6,4,3,1], []⟩]) [] (.at [0,0,1,0,1,1,1,1] :: .rnd [0,0,1,0,1,1,1,1] M :: [.blk 0, .at [1,1,1,1,1]]) ⟨[(5, .v (.int .i64 (k : Int))), (4, .v (.int .i64 m)), (3, .o 0), (1, .p 1 0)], [.rowc 3 1 dg.length (.fn (cI dg)), .cells [.v (.int .i64 c.fx), .v (.int .i64 c.ad), .v (.int .i64 c.ins), .x 2 [], .x 3 [], .x 4 [], .x 5 []] 27, .ext false (.s false 7 c.nodes.length (cN c.nodes)), .ext false (.s false 1 c.gates.length (cI c.gates)), .ext false (.s false 2 c.looks.length (cL c.looks)), .ext false (.s false 2 c.eqs.length (cK c.eqs))]⟩ K R) = W (bif decide ((↑k : Int) < (↑c.5.length : Int)) then (∀ M : Mem, (0 : Int) ≤ (↑k : Int) ∧ (↑k : Int) < (↑c.5.length : Int)) ∧ (∀ M : Mem, k < List.length c.5) ∧ (∀ M : Mem, (0 : Int) ≤ gI c.5 k ∧ gI c.5 k < (↑(List.length dg) : Int)) ∧ (∀ M : Mem, Int.toNat (gI c.5 k) < List.length dg) ∧ bif decide (m < IntKind.wrap .i64 (gI dg (Int.toNat (gI c.5 k)) + (1 : Int))) then (∀ M : Mem, (0 : Int) ≤ (↑k : Int) ∧ (↑k : Int) < (↑c.5.length : Int)) ∧ (∀ M : Mem, k < List.length c.5) ∧ (∀ M : Mem, (0 : Int) ≤ gI c.5 k ∧ gI c.5 k < (↑(List.length dg) : Int)) ∧ (∀ M : Mem, Int.toNat (gI c.5 k) < List.length dg) ∧ K [.rnd [0,0,1,0,1,1,1,1] M, .blk 0, .at [1,1,1,1,1]] (St.mk [(5, .v (vi64 (IntKind.wrap .i64 ((↑k : Int) + (1 : Int))))), (4, .v (vi64 (IntKind.wrap .i64 (gI dg (Int.toNat (gI c.5 k)) + (1 : Int))))), (3, .o 0), (1, .p 1 0)] [.rowc 3 1 (List.length dg) (.fn (cI dg)), .cells [.v (vi64 c.1), .v (vi64 c.2), .v (vi64 c.3), .x 2 [], .x 3 [], .x 4 [], .x 5 []] 27, .ext false (.s false 7 c.4.length (cN c.4)), .ext false (.s false 1 c.5.length (cI c.5)), .ext false (.s false 2 c.6.length (cL c.6)), .ext false (.s false 2 c.7.length (cK c.7))]) else K [.rnd [0,0,1,0,1,1,1,1] M, .blk 0, .at [1,1,1,1,1]] (St.mk [(5, .v (vi64 (IntKind.wrap .i64 ((↑k : Int) + (1 : Int))))), (4, .v (vi64 m)), (3, .o 0), (1, .p 1 0)] [.rowc 3 1 (List.length dg) (.fn (cI dg)), .cells [.v (vi64 c.1), .v (vi64 c.2), .v (vi64 c.3), .x 2 [], .x 3 [], .x 4 [], .x 5 []] 27, .ext false (.s false 7 c.4.length (cN c.4)), .ext false (.s false 1 c.5.length (cI c.5)), .ext false (.s false 2 c.6.length (cL c.6)), .ext false (.s false 2 c.7.length (cK c.7))]) else K [.at [0,1,0,1,1,1,1,1], .blk 2, .at [1,1,1,1,1,1]] (St.mk [(6, .v (vi64 0)), (4, .v (vi64 m)), (3, .o 0), (1, .p 1 0)] [.rowc 3 1 (List.length dg) (.fn (cI dg)), .cells [.v (vi64 c.1), .v (vi64 c.2), .v (vi64 c.3), .x 2 [], .x 3 [], .x 4 [], .x 5 []] 27, .ext false (.s false 7 c.4.length (cN c.4)), .ext false (.s false 1 c.5.length (cI c.5)), .ext false (.s false 2 c.6.length (cL c.6)), .ext false (.s false 2 c.7.length (cK c.7))])) := by kernel_rfl
theorem rdg2 (c : Cir) (dg : List Int) (m : Int) (k M : Nat) (K : List It → St → Prop) (R : SV → List HO → Prop) : W (xwp Tryz.prog X K54 [] 60 (fxOf Tryz.f78 [] [⟨[0,1,0,1,1,1,1], [5,4,3,1], []⟩, ⟨[0,1,0,1,1,1,1,1], [6,4,3,1], []⟩, ⟨[0,1,0,1,1,0,0,1,0,0,1,0,1,1,1,1,1], [9,7,8,6,4,3,1], []⟩]) [] (.at [0,0,1,0,1,1,1,1,1] :: .rnd [0,0,1,0,1,1,1,1,1] M :: [.blk 2, .at [1,1,1,1,1,1]]) ⟨[(6, .v (.int .i64 (k : Int))), (4, .v (.int .i64 m)), (3, .o 0), (1, .p 1 0)], [.rowc 3 1 dg.length (.fn (cI dg)), .cells [.v (.int .i64 c.fx), .v (.int .i64 c.ad), .v (.int .i64 c.ins), .x 2 [], .x 3 [], .x 4 [], .x 5 []] 27, .ext false (.s false 7 c.nodes.length (cN c.nodes)), .ext false (.s false 1 c.gates.length (cI c.gates)), .ext false (.s false 2 c.looks.length (cL c.looks)), .ext false (.s false 2 c.eqs.length (cK c.eqs))]⟩ K R) = W (bif decide ((↑k : Int) < (↑c.6.length : Int)) then K [.at [0,1,0,1,1,0,0,1,0,0,1,0,1,1,1,1,1], .blk 4, .at [1,1,1,0,0,1,0,0,1,0,1,1,1,1,1], .blk 3, .at [1,1,0,0,1,0,1,1,1,1,1], .rnd [0,0,1,0,1,1,1,1,1] M, .blk 2, .at [1,1,1,1,1,1]] (St.mk [(9, .v (vi64 0)), (7, .v (vi64 0)), (8, .v (vi64 0)), (6, .v (vi64 (↑k : Int))), (4, .v (vi64 m)), (3, .o 0), (1, .p 1 0)] [.rowc 3 1 (List.length dg) (.fn (cI dg)), .cells [.v (vi64 c.1), .v (vi64 c.2), .v (vi64 c.3), .x 2 [], .x 3 [], .x 4 [], .x 5 []] 27, .ext false (.s false 7 c.4.length (cN c.4)), .ext false (.s false 1 c.5.length (cI c.5)), .ext false (.s false 2 c.6.length (cL c.6)), .ext false (.s false 2 c.7.length (cK c.7))]) else R (.v (vi64 m)) []) := by kernel_rfl
theorem rdg3 (c : Cir) (dg : List Int) (a b m : Int) (i k M2 M : Nat) (K : List It → St → Prop) (R : SV → List HO → Prop) : W (xwp Tryz.prog X K54 [] 60 (fxOf Tryz.f78 [] [⟨[0,1,0,1,1,1,1], [5,4,3,1], []⟩, ⟨[0,1,0,1,1,1,1,1], [6,4,3,1], []⟩, ⟨[0,1,0,1,1,0,0,1,0,0,1,0,1,1,1,1,1], [9,7,8,6,4,3,1], []⟩]) [] (.at [0,0,1,0,1,1,0,0,1,0,0,1,0,1,1,1,1,1] :: .rnd [0,0,1,0,1,1,0,0,1,0,0,1,0,1,1,1,1,1] M :: [.blk 4, .at [1,1,1,0,0,1,0,0,1,0,1,1,1,1,1], .blk 3, .at [1,1,0,0,1,0,1,1,1,1,1], .rnd [0,0,1,0,1,1,1,1,1] M2, .blk 2, .at [1,1,1,1,1,1]]) ⟨[(9, .v (.int .i64 (k : Int))), (7, .v (.int .i64 a)), (8, .v (.int .i64 b)), (6, .v (.int .i64 (i : Int))), (4, .v (.int .i64 m)), (3, .o 0), (1, .p 1 0)], [.rowc 3 1 dg.length (.fn (cI dg)), .cells [.v (.int .i64 c.fx), .v (.int .i64 c.ad), .v (.int .i64 c.ins), .x 2 [], .x 3 [], .x 4 [], .x 5 []] 27, .ext false (.s false 7 c.nodes.length (cN c.nodes)), .ext false (.s false 1 c.gates.length (cI c.gates)), .ext false (.s false 2 c.looks.length (cL c.looks)), .ext false (.s false 2 c.eqs.length (cK c.eqs))]⟩ K R) = W ((∀ M : Mem, (0 : Int) ≤ (↑i : Int) ∧ (↑i : Int) < (↑c.6.length : Int)) ∧ (∀ M : Mem, i < List.length c.6) ∧ (∀ M : Mem, i < List.length c.6) ∧ (∀ M : Mem, i < List.length c.6) ∧ bif decide ((↑k : Int) < (↑(List.length (gL c.6 i).1) : Int)) then (∀ M : Mem, (0 : Int) ≤ (↑i : Int) ∧ (↑i : Int) < (↑c.6.length : Int)) ∧ (∀ M : Mem, i < List.length c.6) ∧ (∀ M : Mem, i < List.length c.6) ∧ (∀ M : Mem, i < List.length c.6) ∧ (∀ M : Mem, (0 : Int) ≤ (↑k : Int) ∧ (↑k : Int) < (↑(List.length (gL c.6 i).1) : Int)) ∧ (∀ M : Mem, i < List.length c.6) ∧ (∀ M : Mem, k < List.length (gL c.6 i).1) ∧ (∀ M : Mem, (0 : Int) ≤ gI (gL c.6 i).1 k ∧ gI (gL c.6 i).1 k < (↑(List.length dg) : Int)) ∧ (∀ M : Mem, Int.toNat (gI (gL c.6 i).1 k) < List.length dg) ∧ bif decide (a < gI dg (Int.toNat (gI (gL c.6 i).1 k))) then (∀ M : Mem, (0 : Int) ≤ (↑i : Int) ∧ (↑i : Int) < (↑c.6.length : Int)) ∧ (∀ M : Mem, i < List.length c.6) ∧ (∀ M : Mem, i < List.length c.6) ∧ (∀ M : Mem, i < List.length c.6) ∧ (∀ M : Mem, (0 : Int) ≤ (↑k : Int) ∧ (↑k : Int) < (↑(List.length (gL c.6 i).1) : Int)) ∧ (∀ M : Mem, i < List.length c.6) ∧ (∀ M : Mem, k < List.length (gL c.6 i).1) ∧ (∀ M : Mem, (0 : Int) ≤ gI (gL c.6 i).1 k ∧ gI (gL c.6 i).1 k < (↑(List.length dg) : Int)) ∧ (∀ M : Mem, Int.toNat (gI (gL c.6 i).1 k) < List.length dg) ∧ (∀ M : Mem, (0 : Int) ≤ (↑i : Int) ∧ (↑i : Int) < (↑c.6.length : Int)) ∧ (∀ M : Mem, i < List.length c.6) ∧ (∀ M : Mem, i < List.length c.6) ∧ (∀ M : Mem, i < List.length c.6) ∧ (∀ M : Mem, (0 : Int) ≤ (↑k : Int) ∧ (↑k : Int) < (↑(List.length (gL c.6 i).2) : Int)) ∧ (∀ M : Mem, i < List.length c.6) ∧ (∀ M : Mem, k < List.length (gL c.6 i).2) ∧ (∀ M : Mem, (0 : Int) ≤ gI (gL c.6 i).2 k ∧ gI (gL c.6 i).2 k < (↑(List.length dg) : Int)) ∧ (∀ M : Mem, Int.toNat (gI (gL c.6 i).2 k) < List.length dg) ∧ bif decide (b < gI dg (Int.toNat (gI (gL c.6 i).2 k))) then (∀ M : Mem, (0 : Int) ≤ (↑i : Int) ∧ (↑i : Int) < (↑c.6.length : Int)) ∧ (∀ M : Mem, i < List.length c.6) ∧ (∀ M : Mem, i < List.length c.6) ∧ (∀ M : Mem, i < List.length c.6) ∧ (∀ M : Mem, (0 : Int) ≤ (↑k : Int) ∧ (↑k : Int) < (↑(List.length (gL c.6 i).2) : Int)) ∧ (∀ M : Mem, i < List.length c.6) ∧ (∀ M : Mem, k < List.length (gL c.6 i).2) ∧ (∀ M : Mem, (0 : Int) ≤ gI (gL c.6 i).2 k ∧ gI (gL c.6 i).2 k < (↑(List.length dg) : Int)) ∧ (∀ M : Mem, Int.toNat (gI (gL c.6 i).2 k) < List.length dg) ∧ K [.rnd [0,0,1,0,1,1,0,0,1,0,0,1,0,1,1,1,1,1] M, .blk 4, .at [1,1,1,0,0,1,0,0,1,0,1,1,1,1,1], .blk 3, .at [1,1,0,0,1,0,1,1,1,1,1], .rnd [0,0,1,0,1,1,1,1,1] M2, .blk 2, .at [1,1,1,1,1,1]] (St.mk [(9, .v (vi64 (IntKind.wrap .i64 ((↑k : Int) + (1 : Int))))), (7, .v (vi64 (gI dg (Int.toNat (gI (gL c.6 i).1 k))))), (8, .v (vi64 (gI dg (Int.toNat (gI (gL c.6 i).2 k))))), (6, .v (vi64 (↑i : Int))), (4, .v (vi64 m)), (3, .o 0), (1, .p 1 0)] [.rowc 3 1 (List.length dg) (.fn (cI dg)), .cells [.v (vi64 c.1), .v (vi64 c.2), .v (vi64 c.3), .x 2 [], .x 3 [], .x 4 [], .x 5 []] 27, .ext false (.s false 7 c.4.length (cN c.4)), .ext false (.s false 1 c.5.length (cI c.5)), .ext false (.s false 2 c.6.length (cL c.6)), .ext false (.s false 2 c.7.length (cK c.7))]) else K [.rnd [0,0,1,0,1,1,0,0,1,0,0,1,0,1,1,1,1,1] M, .blk 4, .at [1,1,1,0,0,1,0,0,1,0,1,1,1,1,1], .blk 3, .at [1,1,0,0,1,0,1,1,1,1,1], .rnd [0,0,1,0,1,1,1,1,1] M2, .blk 2, .at [1,1,1,1,1,1]] (St.mk [(9, .v (vi64 (IntKind.wrap .i64 ((↑k : Int) + (1 : Int))))), (7, .v (vi64 (gI dg (Int.toNat (gI (gL c.6 i).1 k))))), (8, .v (vi64 b)), (6, .v (vi64 (↑i : Int))), (4, .v (vi64 m)), (3, .o 0), (1, .p 1 0)] [.rowc 3 1 (List.length dg) (.fn (cI dg)), .cells [.v (vi64 c.1), .v (vi64 c.2), .v (vi64 c.3), .x 2 [], .x 3 [], .x 4 [], .x 5 []] 27, .ext false (.s false 7 c.4.length (cN c.4)), .ext false (.s false 1 c.5.length (cI c.5)), .ext false (.s false 2 c.6.length (cL c.6)), .ext false (.s false 2 c.7.length (cK c.7))]) else (∀ M : Mem, (0 : Int) ≤ (↑i : Int) ∧ (↑i : Int) < (↑c.6.length : Int)) ∧ (∀ M : Mem, i < List.length c.6) ∧ (∀ M : Mem, i < List.length c.6) ∧ (∀ M : Mem, i < List.length c.6) ∧ (∀ M : Mem, (0 : Int) ≤ (↑k : Int) ∧ (↑k : Int) < (↑(List.length (gL c.6 i).2) : Int)) ∧ (∀ M : Mem, i < List.length c.6) ∧ (∀ M : Mem, k < List.length (gL c.6 i).2) ∧ (∀ M : Mem, (0 : Int) ≤ gI (gL c.6 i).2 k ∧ gI (gL c.6 i).2 k < (↑(List.length dg) : Int)) ∧ (∀ M : Mem, Int.toNat (gI (gL c.6 i).2 k) < List.length dg) ∧ bif decide (b < gI dg (Int.toNat (gI (gL c.6 i).2 k))) then (∀ M : Mem, (0 : Int) ≤ (↑i : Int) ∧ (↑i : Int) < (↑c.6.length : Int)) ∧ (∀ M : Mem, i < List.length c.6) ∧ (∀ M : Mem, i < List.length c.6) ∧ (∀ M : Mem, i < List.length c.6) ∧ (∀ M : Mem, (0 : Int) ≤ (↑k : Int) ∧ (↑k : Int) < (↑(List.length (gL c.6 i).2) : Int)) ∧ (∀ M : Mem, i < List.length c.6) ∧ (∀ M : Mem, k < List.length (gL c.6 i).2) ∧ (∀ M : Mem, (0 : Int) ≤ gI (gL c.6 i).2 k ∧ gI (gL c.6 i).2 k < (↑(List.length dg) : Int)) ∧ (∀ M : Mem, Int.toNat (gI (gL c.6 i).2 k) < List.length dg) ∧ K [.rnd [0,0,1,0,1,1,0,0,1,0,0,1,0,1,1,1,1,1] M, .blk 4, .at [1,1,1,0,0,1,0,0,1,0,1,1,1,1,1], .blk 3, .at [1,1,0,0,1,0,1,1,1,1,1], .rnd [0,0,1,0,1,1,1,1,1] M2, .blk 2, .at [1,1,1,1,1,1]] (St.mk [(9, .v (vi64 (IntKind.wrap .i64 ((↑k : Int) + (1 : Int))))), (7, .v (vi64 a)), (8, .v (vi64 (gI dg (Int.toNat (gI (gL c.6 i).2 k))))), (6, .v (vi64 (↑i : Int))), (4, .v (vi64 m)), (3, .o 0), (1, .p 1 0)] [.rowc 3 1 (List.length dg) (.fn (cI dg)), .cells [.v (vi64 c.1), .v (vi64 c.2), .v (vi64 c.3), .x 2 [], .x 3 [], .x 4 [], .x 5 []] 27, .ext false (.s false 7 c.4.length (cN c.4)), .ext false (.s false 1 c.5.length (cI c.5)), .ext false (.s false 2 c.6.length (cL c.6)), .ext false (.s false 2 c.7.length (cK c.7))]) else K [.rnd [0,0,1,0,1,1,0,0,1,0,0,1,0,1,1,1,1,1] M, .blk 4, .at [1,1,1,0,0,1,0,0,1,0,1,1,1,1,1], .blk 3, .at [1,1,0,0,1,0,1,1,1,1,1], .rnd [0,0,1,0,1,1,1,1,1] M2, .blk 2, .at [1,1,1,1,1,1]] (St.mk [(9, .v (vi64 (IntKind.wrap .i64 ((↑k : Int) + (1 : Int))))), (7, .v (vi64 a)), (8, .v (vi64 b)), (6, .v (vi64 (↑i : Int))), (4, .v (vi64 m)), (3, .o 0), (1, .p 1 0)] [.rowc 3 1 (List.length dg) (.fn (cI dg)), .cells [.v (vi64 c.1), .v (vi64 c.2), .v (vi64 c.3), .x 2 [], .x 3 [], .x 4 [], .x 5 []] 27, .ext false (.s false 7 c.4.length (cN c.4)), .ext false (.s false 1 c.5.length (cI c.5)), .ext false (.s false 2 c.6.length (cL c.6)), .ext false (.s false 2 c.7.length (cK c.7))]) else bif decide (m < IntKind.wrap .i64 (IntKind.wrap .i64 ((2 : Int) + a) + b)) then K [.rnd [0,0,1,0,1,1,1,1,1] M2, .blk 2, .at [1,1,1,1,1,1]] (St.mk [(6, .v (vi64 (IntKind.wrap .i64 ((↑i : Int) + (1 : Int))))), (4, .v (vi64 (IntKind.wrap .i64 (IntKind.wrap .i64 ((2 : Int) + a) + b)))), (3, .o 0), (1, .p 1 0)] [.rowc 3 1 (List.length dg) (.fn (cI dg)), .cells [.v (vi64 c.1), .v (vi64 c.2), .v (vi64 c.3), .x 2 [], .x 3 [], .x 4 [], .x 5 []] 27, .ext false (.s false 7 c.4.length (cN c.4)), .ext false (.s false 1 c.5.length (cI c.5)), .ext false (.s false 2 c.6.length (cL c.6)), .ext false (.s false 2 c.7.length (cK c.7))]) else K [.rnd [0,0,1,0,1,1,1,1,1] M2, .blk 2, .at [1,1,1,1,1,1]] (St.mk [(6, .v (vi64 (IntKind.wrap .i64 ((↑i : Int) + (1 : Int))))), (4, .v (vi64 m)), (3, .o 0), (1, .p 1 0)] [.rowc 3 1 (List.length dg) (.fn (cI dg)), .cells [.v (vi64 c.1), .v (vi64 c.2), .v (vi64 c.3), .x 2 [], .x 3 [], .x 4 [], .x 5 []] 27, .ext false (.s false 7 c.4.length (cN c.4)), .ext false (.s false 1 c.5.length (cI c.5)), .ext false (.s false 2 c.6.length (cL c.6)), .ext false (.s false 2 c.7.length (cK c.7))])) := by kernel_rfl
theorem rdg_in (c : Cir) (hc : c.ok) (dg : List Int) (ho : degOk c dg) (m : Int) (i M2 : Nat) (hi : i < c.looks.length) (hlen : (gL c.looks i).2.length = (gL c.looks i).1.length) (Q : SV → List HO → Prop)
    (next : FOk Tryz.prog Tryz.f78 Q (.rnd [0,0,1,0,1,1,1,1,1] M2 :: [.blk 2, .at [1,1,1,1,1,1]]) ⟨[(6, .v (.int .i64 ((i + 1 : Nat) : Int))), (4, .v (.int .i64 (mxI m (2 + gtN dg (gL c.looks i).1 + gtN dg (gL c.looks i).2)))), (3, .o 0), (1, .p 1 0)], [.rowc 3 1 dg.length (.fn (cI dg)), .cells [.v (.int .i64 c.fx), .v (.int .i64 c.ad), .v (.int .i64 c.ins), .x 2 [], .x 3 [], .x 4 [], .x 5 []] 27, .ext false (.s false 7 c.nodes.length (cN c.nodes)), .ext false (.s false 1 c.gates.length (cI c.gates)), .ext false (.s false 2 c.looks.length (cL c.looks)), .ext false (.s false 2 c.eqs.length (cK c.eqs))]⟩) : ∀ (d k : Nat) (a b : Int), k + d = (gL c.looks i).1.length → a = gtN dg ((gL c.looks i).1.take k) → b = gtN dg ((gL c.looks i).2.take k) →
    FOk Tryz.prog Tryz.f78 Q (.rnd [0,0,1,0,1,1,0,0,1,0,0,1,0,1,1,1,1,1] (d + 1) :: [.blk 4, .at [1,1,1,0,0,1,0,0,1,0,1,1,1,1,1], .blk 3, .at [1,1,0,0,1,0,1,1,1,1,1], .rnd [0,0,1,0,1,1,1,1,1] M2, .blk 2, .at [1,1,1,1,1,1]]) ⟨[(9, .v (.int .i64 (k : Int))), (7, .v (.int .i64 a)), (8, .v (.int .i64 b)), (6, .v (.int .i64 (i : Int))), (4, .v (.int .i64 m)), (3, .o 0), (1, .p 1 0)], [.rowc 3 1 dg.length (.fn (cI dg)), .cells [.v (.int .i64 c.fx), .v (.int .i64 c.ad), .v (.int .i64 c.ins), .x 2 [], .x 3 [], .x 4 [], .x 5 []] 27, .ext false (.s false 7 c.nodes.length (cN c.nodes)), .ext false (.s false 1 c.gates.length (cI c.gates)), .ext false (.s false 2 c.looks.length (cL c.looks)), .ext false (.s false 2 c.eqs.length (cK c.eqs))]⟩
  | 0, k, a, b, hd, ha, hb => by
    have h1 := hc.l.2
    have t1 := gtN_bnd ho.d (gL c.looks i).1
    have t2 := gtN_bnd ho.d (gL c.looks i).2
    refine FOk.rnd (run_sound hm 60 ((rdg3 c dg a b m i k M2 0 _ _).mpr ⟨?_⟩))
    rw [show k = (gL c.looks i).1.length by omega, List.take_length] at ha
    rw [show k = (gL c.looks i).2.length by omega, List.take_length] at hb
    refine And.intro (fun _ => by omega) (And.intro (fun _ => by omega) (And.intro (fun _ => by omega) (And.intro (fun _ => by omega) ?_)))
    rw [cond_dec, if_neg (by omega), ha, hb, wrap_in (2 + gtN dg (gL c.looks i).1) (by omega), wrap_in (2 + gtN dg (gL c.looks i).1 + gtN dg (gL c.looks i).2) (by omega), wrap_inc i (by omega), cond_dec]
    refine ite_intro (fun h => ?_) (fun h => ?_)
    · rw [mxI_pos h] at next; exact next
    · rw [mxI_neg h] at next; exact next
  | d + 1, k, a, b, hd, ha, hb => by
    have h1 := hc.l.2
    obtain ⟨⟨_, g1⟩, ⟨_, g2⟩⟩ := hc.l.1 _ (gL_mem hi)
    obtain ⟨o1, o2⟩ := ho.l _ (gL_mem hi)
    have hk : k < (gL c.looks i).1.length := by omega
    have hk2 : k < (gL c.looks i).2.length := by omega
    obtain ⟨p1, p2⟩ := o1 _ (gI_mem hk)
    obtain ⟨p3, p4⟩ := o2 _ (gI_mem hk2)
    have rec' := rdg_in c hc dg ho m i M2 hi hlen Q next d (k + 1)
    refine FOk.rnd (run_sound hm 60 ((rdg3 c dg a b m i k M2 (d + 1) _ _).mpr ⟨?_⟩))
    rw [wrap_inc k (by omega)]
    simp only [cond_dec, forall_const]
    refine And.intro (by omega) (And.intro (by omega) (And.intro (by omega) (And.intro (by omega) ?_)))
    rw [if_pos (by omega)]
    repeat' (first | refine And.intro (by omega) ?_ | refine ite_intro (fun h => ?_) (fun h => ?_))
    all_goals first
      | exact rec' _ _ (by omega) (gtN_take hk ha (by assumption)) (gtN_take hk2 hb (by assumption))
      | exact rec' _ _ (by omega) (gtN_take hk ha (by assumption)) (gtN_keep hk2 hb (by assumption))
      | exact rec' _ _ (by omega) (gtN_keep hk ha (by assumption)) (gtN_take hk2 hb (by assumption))
      | exact rec' _ _ (by omega) (gtN_keep hk ha (by assumption)) (gtN_keep hk2 hb (by assumption))
theorem rdg_out (c : Cir) (hc : c.ok) (dg : List Int) (ho : degOk c dg) (hlen : ∀ x ∈ c.looks, x.2.length = x.1.length) (Q : SV → List HO → Prop) (hq : Q (.v (.int .i64 (degP c dg))) []) : ∀ (d k : Nat) (m : Int), k + d = c.looks.length → m = (c.looks.take k).foldl (fun d l => mxI d (2 + gtN dg l.1 + gtN dg l.2)) (mxI (baseN c) (gtN dg c.gates + 1)) →
    FOk Tryz.prog Tryz.f78 Q (.rnd [0,0,1,0,1,1,1,1,1] (d + 1) :: [.blk 2, .at [1,1,1,1,1,1]]) ⟨[(6, .v (.int .i64 (k : Int))), (4, .v (.int .i64 m)), (3, .o 0), (1, .p 1 0)], [.rowc 3 1 dg.length (.fn (cI dg)), .cells [.v (.int .i64 c.fx), .v (.int .i64 c.ad), .v (.int .i64 c.ins), .x 2 [], .x 3 [], .x 4 [], .x 5 []] 27, .ext false (.s false 7 c.nodes.length (cN c.nodes)), .ext false (.s false 1 c.gates.length (cI c.gates)), .ext false (.s false 2 c.looks.length (cL c.looks)), .ext false (.s false 2 c.eqs.length (cK c.eqs))]⟩
  | 0, k, m, hd, he => by
    refine FOk.rnd (run_sound hm 60 ((rdg2 c dg m k 0 _ _).mpr ⟨?_⟩))
    rw [cond_dec, if_neg (by omega)]
    rw [show k = c.looks.length by omega, List.take_length] at he
    rw [he]
    exact hq
  | d + 1, k, m, hd, he => by
    have hk : k < c.looks.length := by omega
    refine FOk.rnd (run_sound hm 60 ((rdg2 c dg m k (d + 1) _ _).mpr ⟨?_⟩))
    rw [cond_dec, if_pos (by omega)]
    exact FOk.loop ((gL c.looks k).1.length + 1) (by kernel_rfl) (rdg_in c hc dg ho m k (d + 1) hk (hlen _ (gL_mem hk)) Q (rdg_out c hc dg ho hlen Q hq d (k + 1) _ (by omega) (by rw [foldl_takeL _ _ hk, ← he])) (gL c.looks k).1.length 0 0 0 (by omega) rfl rfl)
theorem rdg_gate (c : Cir) (hc : c.ok) (dg : List Int) (ho : degOk c dg) (hlen : ∀ x ∈ c.looks, x.2.length = x.1.length) (Q : SV → List HO → Prop) (hq : Q (.v (.int .i64 (degP c dg))) []) : ∀ (d k : Nat) (m : Int), k + d = c.gates.length → m = mxI (baseN c) (gtN dg (c.gates.take k) + 1) →
    FOk Tryz.prog Tryz.f78 Q (.rnd [0,0,1,0,1,1,1,1] (d + 1) :: [.blk 0, .at [1,1,1,1,1]]) ⟨[(5, .v (.int .i64 (k : Int))), (4, .v (.int .i64 m)), (3, .o 0), (1, .p 1 0)], [.rowc 3 1 dg.length (.fn (cI dg)), .cells [.v (.int .i64 c.fx), .v (.int .i64 c.ad), .v (.int .i64 c.ins), .x 2 [], .x 3 [], .x 4 [], .x 5 []] 27, .ext false (.s false 7 c.nodes.length (cN c.nodes)), .ext false (.s false 1 c.gates.length (cI c.gates)), .ext false (.s false 2 c.looks.length (cL c.looks)), .ext false (.s false 2 c.eqs.length (cK c.eqs))]⟩
  | 0, k, m, hd, he => by
    refine FOk.rnd (run_sound hm 60 ((rdg1 c dg m k 0 _ _).mpr ⟨?_⟩))
    rw [cond_dec, if_neg (by omega)]
    rw [show k = c.gates.length by omega, List.take_length] at he
    exact FOk.loop (c.looks.length + 1) (by kernel_rfl) (rdg_out c hc dg ho hlen Q hq c.looks.length 0 m (by omega) he)
  | d + 1, k, m, hd, he => by
    have hk : k < c.gates.length := by omega
    have h1 := hc.g.2
    obtain ⟨p1, p2⟩ := ho.g _ (gI_mem hk)
    have t := gI_bnd ho.d (gI c.gates k).toNat
    have rec' := rdg_gate c hc dg ho hlen Q hq d (k + 1) (mxI m (gI dg (gI c.gates k).toNat + 1)) (by omega) (by rw [gate_max hk, ← he])
    refine FOk.rnd (run_sound hm 60 ((rdg1 c dg m k (d + 1) _ _).mpr ⟨?_⟩))
    rw [cond_dec, if_pos (by omega), wrap_inc k (by omega), wrap_in (gI dg (gI c.gates k).toNat + 1) (by omega)]
    refine And.intro (fun _ => by omega) (And.intro (fun _ => by omega) (And.intro (fun _ => by omega) (And.intro (fun _ => by omega) (?_))))
    rw [cond_dec]
    refine ite_intro (fun h => ?_) (fun h => ?_)
    · rw [mxI_pos h] at rec'
      exact And.intro (fun _ => by omega) (And.intro (fun _ => by omega) (And.intro (fun _ => by omega) (And.intro (fun _ => by omega) (rec'))))
    · rw [mxI_neg h] at rec'
      exact rec'
theorem bRdg : Tryz.f78.body.isSome = true := by kernel_rfl
theorem nRdg (c : Cir) : Nat.ble [(.agg [.v (.int .i64 c.fx), .v (.int .i64 c.ad), .v (.int .i64 c.ins), .x 0 [], .x 1 [], .x 2 [], .x 3 []] : SV)].length Tryz.f78.ntmps = true := by kernel_rfl
theorem rdg_ok (c : Cir) (hc : c.ok) (ho : degOk c (degrees c.nodes)) (hlen : ∀ x ∈ c.looks, x.2.length = x.1.length) (Q : SV → List HO → Prop) (hq : Q (.v (.int .i64 (degP c (degrees c.nodes)))) []) : FnOk Tryz.prog 78 [.agg [.v (.int .i64 c.fx), .v (.int .i64 c.ad), .v (.int .i64 c.ins), .x 0 [], .x 1 [], .x 2 [], .x 3 []]] [.ext false (.s false 7 c.nodes.length (cN c.nodes)), .ext false (.s false 1 c.gates.length (cI c.gates)), .ext false (.s false 2 c.looks.length (cL c.looks)), .ext false (.s false 2 c.eqs.length (cK c.eqs))] Q := by
  refine fn_of_ok Tryz.func78 bRdg ?_ ?_
  · exact nRdg c
  have h1 := hc.n.2
  refine run_sound hm 60 ((rdgS c _ _).mpr ⟨?_⟩)
  refine ⟨c.nodes, rfl, IsC.refl _ _ _, by omega, ?_⟩
  have start : ∀ m : Int, m = baseN c → FOk Tryz.prog Tryz.f78 Q (.rnd [0,0,1,0,1,1,1,1] (c.gates.length + 1) :: [.blk 0, .at [1,1,1,1,1]]) ⟨[(5, .v (.int .i64 ((0 : Nat) : Int))), (4, .v (.int .i64 m)), (3, .o 0), (1, .p 1 0)], [.rowc 3 1 (degrees c.nodes).length (.fn (cI (degrees c.nodes))), .cells [.v (.int .i64 c.fx), .v (.int .i64 c.ad), .v (.int .i64 c.ins), .x 2 [], .x 3 [], .x 4 [], .x 5 []] 27, .ext false (.s false 7 c.nodes.length (cN c.nodes)), .ext false (.s false 1 c.gates.length (cI c.gates)), .ext false (.s false 2 c.looks.length (cL c.looks)), .ext false (.s false 2 c.eqs.length (cK c.eqs))]⟩ := fun m hm' => by
    refine rdg_gate c hc _ ho hlen Q hq c.gates.length 0 m (by omega) ?_
    rw [hm', mxI, if_neg]
    · have : baseN c = 3 ∨ baseN c = 4 := by rw [baseN]; split <;> simp
      simp only [List.take_zero, gtN, List.foldl_nil]
      omega
  simp only [cond_dec]
  refine ite_intro (fun h => ?_) (fun h => ite_intro (fun h2 => ?_) (fun h2 => ?_))
  · exact FOk.loop (c.gates.length + 1) (by kernel_rfl) (start 4 (by rw [baseN, if_pos (by omega)]))
  · exact FOk.loop (c.gates.length + 1) (by kernel_rfl) (start 4 (by rw [baseN, if_pos (by omega)]))
  · exact FOk.loop (c.gates.length + 1) (by kernel_rfl) (start 3 (by rw [baseN, if_neg (by omega)]))
noncomputable def gRdg : List SV → List HO → Option ((SV → List HO → Prop) → Prop)
  | [.agg [.v (.int .i64 fx), .v (.int .i64 ad), .v (.int .i64 ins), .x 0 [], .x 1 [], .x 2 [], .x 3 []]], [.ext false (.s false 7 n0 c0), .ext false (.s false 1 n1 c1), .ext false (.s false 2 n2 c2), .ext false (.s false 2 n3 c3)] =>
    some fun Q => lC fx ad ins n0 n1 n2 n3 c0 c1 c2 c3 fun c => (degOk c (degrees c.nodes) ∧ ∀ x ∈ c.looks, x.2.length = x.1.length) ∧ Q (.v (.int .i64 (degP c (degrees c.nodes)))) []
  | _, _ => none
theorem gRdg_ok (args : List SV) (h : List HO) (tr : (SV → List HO → Prop) → Prop) (Q : SV → List HO → Prop) (hc : gRdg args h = some tr) (ht : tr Q) : FnOk Tryz.prog 78 args h Q := by
  unfold gRdg at hc
  split at hc
  · rename_i fx ad ins n0 c0 n1 c1 n2 c2 n3 c3
    simp only [Option.some.injEq] at hc
    subst hc
    obtain ⟨c, rfl, rfl, rfl, ⟨rfl, e0⟩, ⟨rfl, e1⟩, ⟨rfl, e2⟩, ⟨rfl, e3⟩, hk, ho, hq⟩ := ht.h
    exact FnOk.ac (rdg_ok c hk ho.1 ho.2 Q hq) ⟨⟨rfl, rfl, rfl, rfl, e0⟩, ⟨rfl, rfl, rfl, rfl, e1⟩, ⟨rfl, rfl, rfl, rfl, e2⟩, ⟨rfl, rfl, rfl, rfl, e3⟩, trivial⟩
  · cases hc
noncomputable def K55 : Con Tryz.prog := K54.add 78 gRdg gRdg_ok
end Go.Proofs.YtlmjdcbhpffanaaGreat
/- Is a circuit right? By the document. -/
namespace Go.Pl
open Go.Sx
theorem cnt_at (c : Cir) {k : Int} (h1 : 2 ≤ k) (h2 : k ≤ 4) : [SV.v (.int .i64 c.fx), SV.v (.int .i64 c.ad), SV.v (.int .i64 c.ins)][0 + Int.toNat (IntKind.wrap IntKind.i64 (k - 2)) * 1]? = some (SV.v (.int .i64 (mostK c k))) := by
  have : k = 2 ∨ k = 3 ∨ k = 4 := by omega
  rcases this with rfl | rfl | rfl <;> rfl
theorem mem_takeK {l : List (Int × Int)} {k : Nat} (hk : k < l.length) {x : Int × Int} : x ∈ l.take k ↔ ∃ j, j < k ∧ gK l j = x := by
  constructor
  · intro h
    obtain ⟨j, hj, e⟩ := List.getElem_of_mem h
    rw [List.length_take] at hj
    refine ⟨j, by omega, ?_⟩
    rw [List.getElem_take] at e
    rw [gK, List.getD_eq_getElem?_getD, List.getElem?_eq_getElem (by omega)]
    exact e
  · rintro ⟨j, hj, rfl⟩
    have hj2 : j < (l.take k).length := by rw [List.length_take]; omega
    have : (l.take k)[j] = gK l j := by
      rw [List.getElem_take, gK, List.getD_eq_getElem?_getD, List.getElem?_eq_getElem (by omega)]; rfl
    rw [← this]
    exact List.getElem_mem hj2
theorem any_takeI {p : Int → Bool} {l : List Int} {k : Nat} (h : k < l.length) : (l.take (k + 1)).any p = ((l.take k).any p || p (gI l k)) := by
  rw [take_gI h, List.any_append, List.any_cons, List.any_nil, Bool.or_false]
theorem any_takeL {p : List Int × List Int → Bool} {l : List (List Int × List Int)} {k : Nat} (h : k < l.length) : (l.take (k + 1)).any p = ((l.take k).any p || p (gL l k)) := by
  rw [← take_gL h, List.any_append, List.any_cons, List.any_nil, Bool.or_false]
theorem any_at {α : Type} {p : α → Bool} {l : List α} {x : α} (h : x ∈ l) (hp : p x = true) : l.any p = true := List.any_eq_true.2 ⟨x, h, hp⟩
end Go.Pl
namespace Go.Proofs.YtlmjdcbhpffanaaGreat
open Go.Sx Go.Pl
set_option linter.unusedVariables false
set_option maxRecDepth 100000
theorem rkS (c : Cir) (K : List It → St → Prop) (R : SV → List HO → Prop) : W (xwp Tryz.prog X K55 [] 60 (fxOf Tryz.f39 [([0,1,0,1,1,1,1], 4)] [⟨[0,1,0,1,1,1,1,1,1], [6,1,4], []⟩, ⟨[0,1,0,1,1,1,1,1,1,1], [7,1,4], []⟩, ⟨[0,1,1,1,0,0,1,0,0,1,0,1,1,1,1,1,1,1], [9,8,7,1,4], []⟩, ⟨[0,1,0,1,1,1,1,1,1,1,1], [10,1,4], []⟩, ⟨[0,1,1,1,0,0,1,0,0,1,0,1,1,1,1,1,1,1,1], [12,11,10,1,4], []⟩]) [] [.at []] ⟨argsS 0 [.agg [.v (.int .i64 c.fx), .v (.int .i64 c.ad), .v (.int .i64 c.ins), .x 0 [], .x 1 [], .x 2 [], .x 3 []]], [.ext false (.s false 7 c.nodes.length (cN c.nodes)), .ext false (.s false 1 c.gates.length (cI c.gates)), .ext false (.s false 2 c.looks.length (cL c.looks)), .ext false (.s false 2 c.eqs.length (cK c.eqs))]⟩ K R) = W (∃ (l : List Nd), List.length c.4 = List.length l ∧ IsC c.4.length 7 (cN c.4) (cN l) ∧ List.length l ≤ 4000000000000 ∧ bif !chkN l c.1 c.2 c.3 == (0 : Int) then R (.v (vi64 (chkN l c.1 c.2 c.3))) [] else (∀ M : Mem, 0 + 3 ≤ 3) ∧ (∀ M : Mem, (0 : Int) ≤ (0 : Int) ∧ (0 : Int) < (3 : Int)) ∧ bif decide (c.1 < (0 : Int)) then R (.v (vi64 120)) [] else (∀ M : Mem, (0 : Int) ≤ (0 : Int) ∧ (0 : Int) < (3 : Int)) ∧ bif decide ((8 : Int) < c.1) then R (.v (vi64 120)) [] else (∀ M : Mem, (0 : Int) ≤ (1 : Int) ∧ (1 : Int) < (3 : Int)) ∧ bif decide (c.2 < (0 : Int)) then R (.v (vi64 120)) [] else (∀ M : Mem, (0 : Int) ≤ (1 : Int) ∧ (1 : Int) < (3 : Int)) ∧ bif decide ((8 : Int) < c.2) then R (.v (vi64 120)) [] else (∀ M : Mem, (0 : Int) ≤ (2 : Int) ∧ (2 : Int) < (3 : Int)) ∧ bif decide (c.3 < (0 : Int)) then R (.v (vi64 120)) [] else (∀ M : Mem, (0 : Int) ≤ (2 : Int) ∧ (2 : Int) < (3 : Int)) ∧ bif decide ((8 : Int) < c.3) then R (.v (vi64 120)) [] else bif c.2 == (0 : Int) then R (.v (vi64 120)) [] else bif decide ((16 : Int) < (↑c.5.length : Int)) then R (.v (vi64 120)) [] else bif decide ((4 : Int) < (↑c.6.length : Int)) then R (.v (vi64 120)) [] else bif decide ((8 : Int) < (↑c.7.length : Int)) then R (.v (vi64 120)) [] else K [.at [0,1,0,1,1,1,1,1,1], .blk 2, .at [1,1,1,1,1,1,1]] (St.mk [(6, .v (vi64 0)), (1, .p 0 0), (4, .p 1 0)] [.cells [.v (vi64 c.1), .v (vi64 c.2), .v (vi64 c.3), .x 2 [], .x 3 [], .x 4 [], .x 5 []] 27, .cells [.v (vi64 c.1), .v (vi64 c.2), .v (vi64 c.3)] 140, .ext false (.s false 7 c.4.length (cN c.4)), .ext false (.s false 1 c.5.length (cI c.5)), .ext false (.s false 2 c.6.length (cL c.6)), .ext false (.s false 2 c.7.length (cK c.7))])) := by kernel_rfl
theorem rk1 (c : Cir) (k M : Nat) (K : List It → St → Prop) (R : SV → List HO → Prop) : W (xwp Tryz.prog X K55 [(76, [])] 60 (fxOf Tryz.f39 [] [⟨[0,1,0,1,1,1,1,1,1], [6,1,4], []⟩, ⟨[0,1,0,1,1,1,1,1,1,1], [7,1,4], []⟩, ⟨[0,1,1,1,0,0,1,0,0,1,0,1,1,1,1,1,1,1], [9,8,7,1,4], []⟩, ⟨[0,1,0,1,1,1,1,1,1,1,1], [10,1,4], []⟩, ⟨[0,1,1,1,0,0,1,0,0,1,0,1,1,1,1,1,1,1,1], [12,11,10,1,4], []⟩]) [] (.at [0,0,1,0,1,1,1,1,1,1] :: .rnd [0,0,1,0,1,1,1,1,1,1] M :: [.blk 2, .at [1,1,1,1,1,1,1]]) ⟨[(6, .v (.int .i64 (k : Int))), (1, .p 0 0), (4, .p 1 0)], [.cells [.v (.int .i64 c.fx), .v (.int .i64 c.ad), .v (.int .i64 c.ins), .x 2 [], .x 3 [], .x 4 [], .x 5 []] 27, .cells [.v (.int .i64 c.fx), .v (.int .i64 c.ad), .v (.int .i64 c.ins)] 140, .ext false (.s false 7 c.nodes.length (cN c.nodes)), .ext false (.s false 1 c.gates.length (cI c.gates)), .ext false (.s false 2 c.looks.length (cL c.looks)), .ext false (.s false 2 c.eqs.length (cK c.eqs))]⟩ K R) = W (bif decide ((↑k : Int) < (↑c.5.length : Int)) then (∀ M : Mem, (0 : Int) ≤ (↑k : Int) ∧ (↑k : Int) < (↑c.5.length : Int)) ∧ (∀ M : Mem, k < List.length c.5) ∧ bif decide ((0 : Int) ≤ gI c.5 k) then bif !decide (gI c.5 k < (↑c.4.length : Int)) then R (.v (vi64 120)) [] else K [.rnd [0,0,1,0,1,1,1,1,1,1] M, .blk 2, .at [1,1,1,1,1,1,1]] (St.mk [(6, .v (vi64 (IntKind.wrap .i64 ((↑k : Int) + (1 : Int))))), (1, .p 0 0), (4, .p 1 0)] [.cells [.v (vi64 c.1), .v (vi64 c.2), .v (vi64 c.3), .x 2 [], .x 3 [], .x 4 [], .x 5 []] 27, .cells [.v (vi64 c.1), .v (vi64 c.2), .v (vi64 c.3)] 140, .ext false (.s false 7 c.4.length (cN c.4)), .ext false (.s false 1 c.5.length (cI c.5)), .ext false (.s false 2 c.6.length (cL c.6)), .ext false (.s false 2 c.7.length (cK c.7))]) else R (.v (vi64 120)) [] else K [.at [0,1,0,1,1,1,1,1,1,1], .blk 4, .at [1,1,1,1,1,1,1,1]] (St.mk [(7, .v (vi64 0)), (1, .p 0 0), (4, .p 1 0)] [.cells [.v (vi64 c.1), .v (vi64 c.2), .v (vi64 c.3), .x 2 [], .x 3 [], .x 4 [], .x 5 []] 27, .cells [.v (vi64 c.1), .v (vi64 c.2), .v (vi64 c.3)] 140, .ext false (.s false 7 c.4.length (cN c.4)), .ext false (.s false 1 c.5.length (cI c.5)), .ext false (.s false 2 c.6.length (cL c.6)), .ext false (.s false 2 c.7.length (cK c.7))])) := by kernel_rfl
theorem rk2 (c : Cir) (k M : Nat) (K : List It → St → Prop) (R : SV → List HO → Prop) : W (xwp Tryz.prog X K55 [] 60 (fxOf Tryz.f39 [] [⟨[0,1,0,1,1,1,1,1,1], [6,1,4], []⟩, ⟨[0,1,0,1,1,1,1,1,1,1], [7,1,4], []⟩, ⟨[0,1,1,1,0,0,1,0,0,1,0,1,1,1,1,1,1,1], [9,8,7,1,4], []⟩, ⟨[0,1,0,1,1,1,1,1,1,1,1], [10,1,4], []⟩, ⟨[0,1,1,1,0,0,1,0,0,1,0,1,1,1,1,1,1,1,1], [12,11,10,1,4], []⟩]) [] (.at [0,0,1,0,1,1,1,1,1,1,1] :: .rnd [0,0,1,0,1,1,1,1,1,1,1] M :: [.blk 4, .at [1,1,1,1,1,1,1,1]]) ⟨[(7, .v (.int .i64 (k : Int))), (1, .p 0 0), (4, .p 1 0)], [.cells [.v (.int .i64 c.fx), .v (.int .i64 c.ad), .v (.int .i64 c.ins), .x 2 [], .x 3 [], .x 4 [], .x 5 []] 27, .cells [.v (.int .i64 c.fx), .v (.int .i64 c.ad), .v (.int .i64 c.ins)] 140, .ext false (.s false 7 c.nodes.length (cN c.nodes)), .ext false (.s false 1 c.gates.length (cI c.gates)), .ext false (.s false 2 c.looks.length (cL c.looks)), .ext false (.s false 2 c.eqs.length (cK c.eqs))]⟩ K R) = W (bif decide ((↑k : Int) < (↑c.6.length : Int)) then (∀ M : Mem, (0 : Int) ≤ (↑k : Int) ∧ (↑k : Int) < (↑c.6.length : Int)) ∧ (∀ M : Mem, k < List.length c.6) ∧ (∀ M : Mem, 0 + 2 ≤ 2) ∧ (∀ M : Mem, k < List.length c.6) ∧ bif decide ((↑(List.length (gL c.6 k).1) : Int) < (1 : Int)) then R (.v (vi64 120)) [] else (∀ M : Mem, k < List.length c.6) ∧ bif decide ((4 : Int) < (↑(List.length (gL c.6 k).1) : Int)) then R (.v (vi64 120)) [] else (∀ M : Mem, k < List.length c.6) ∧ (∀ M : Mem, k < List.length c.6) ∧ bif !(↑(List.length (gL c.6 k).2) : Int) == (↑(List.length (gL c.6 k).1) : Int) then R (.v (vi64 120)) [] else K [.at [0,1,1,1,0,0,1,0,0,1,0,1,1,1,1,1,1,1], .blk 6, .blk 5, .at [1,1,0,0,1,0,1,1,1,1,1,1,1], .rnd [0,0,1,0,1,1,1,1,1,1,1] M, .blk 4, .at [1,1,1,1,1,1,1,1]] (St.mk [(9, .v (vi64 0)), (8, .p 0 0), (7, .v (vi64 (↑k : Int))), (1, .p 1 0), (4, .p 2 0)] [.cells [.x 3 [(2, k, 0)], .x 3 [(2, k, 1)]] 76, .cells [.v (vi64 c.1), .v (vi64 c.2), .v (vi64 c.3), .x 4 [], .x 5 [], .x 3 [], .x 6 []] 27, .cells [.v (vi64 c.1), .v (vi64 c.2), .v (vi64 c.3)] 140, .ext false (.s false 2 c.6.length (cL c.6)), .ext false (.s false 7 c.4.length (cN c.4)), .ext false (.s false 1 c.5.length (cI c.5)), .ext false (.s false 2 c.7.length (cK c.7))]) else K [.at [0,1,0,1,1,1,1,1,1,1,1], .blk 8, .at [1,1,1,1,1,1,1,1,1]] (St.mk [(10, .v (vi64 0)), (1, .p 0 0), (4, .p 1 0)] [.cells [.v (vi64 c.1), .v (vi64 c.2), .v (vi64 c.3), .x 2 [], .x 3 [], .x 4 [], .x 5 []] 27, .cells [.v (vi64 c.1), .v (vi64 c.2), .v (vi64 c.3)] 140, .ext false (.s false 7 c.4.length (cN c.4)), .ext false (.s false 1 c.5.length (cI c.5)), .ext false (.s false 2 c.6.length (cL c.6)), .ext false (.s false 2 c.7.length (cK c.7))])) := by kernel_rfl
theorem rk3 (c : Cir) (i k M2 M : Nat) (K : List It → St → Prop) (R : SV → List HO → Prop) : W (xwp Tryz.prog X K55 [] 60 (fxOf Tryz.f39 [] [⟨[0,1,0,1,1,1,1,1,1], [6,1,4], []⟩, ⟨[0,1,0,1,1,1,1,1,1,1], [7,1,4], []⟩, ⟨[0,1,1,1,0,0,1,0,0,1,0,1,1,1,1,1,1,1], [9,8,7,1,4], []⟩, ⟨[0,1,0,1,1,1,1,1,1,1,1], [10,1,4], []⟩, ⟨[0,1,1,1,0,0,1,0,0,1,0,1,1,1,1,1,1,1,1], [12,11,10,1,4], []⟩]) [] (.at [0,0,1,1,1,0,0,1,0,0,1,0,1,1,1,1,1,1,1] :: .rnd [0,0,1,1,1,0,0,1,0,0,1,0,1,1,1,1,1,1,1] M :: [.blk 6, .blk 5, .at [1,1,0,0,1,0,1,1,1,1,1,1,1], .rnd [0,0,1,0,1,1,1,1,1,1,1] M2, .blk 4, .at [1,1,1,1,1,1,1,1]]) ⟨[(9, .v (.int .i64 (k : Int))), (8, .p 0 0), (7, .v (.int .i64 (i : Int))), (1, .p 1 0), (4, .p 2 0)], [.cells [.x 3 [(2, i, 0)], .x 3 [(2, i, 1)]] 76, .cells [.v (.int .i64 c.fx), .v (.int .i64 c.ad), .v (.int .i64 c.ins), .x 4 [], .x 5 [], .x 3 [], .x 6 []] 27, .cells [.v (.int .i64 c.fx), .v (.int .i64 c.ad), .v (.int .i64 c.ins)] 140, .ext false (.s false 2 c.looks.length (cL c.looks)), .ext false (.s false 7 c.nodes.length (cN c.nodes)), .ext false (.s false 1 c.gates.length (cI c.gates)), .ext false (.s false 2 c.eqs.length (cK c.eqs))]⟩ K R) = W ((∀ M : Mem, i < List.length c.6) ∧ bif decide ((↑k : Int) < (↑(List.length (gL c.6 i).1) : Int)) then (∀ M : Mem, i < List.length c.6) ∧ (∀ M : Mem, (0 : Int) ≤ (↑k : Int) ∧ (↑k : Int) < (↑(List.length (gL c.6 i).1) : Int)) ∧ (∀ M : Mem, i < List.length c.6) ∧ (∀ M : Mem, k < List.length (gL c.6 i).1) ∧ lC c.1 c.2 c.3 c.4.length c.5.length c.6.length c.7.length (cN c.4) (cI c.5) (cL c.6) (cK c.7) fun (c_1 : Cir) => bif !flatB c_1 (gI (gL c.6 i).1 k) then R (.v (vi64 120)) [] else (∀ M : Mem, i < List.length c.6) ∧ (∀ M : Mem, (0 : Int) ≤ (↑k : Int) ∧ (↑k : Int) < (↑(List.length (gL c.6 i).2) : Int)) ∧ (∀ M : Mem, i < List.length c.6) ∧ (∀ M : Mem, k < List.length (gL c.6 i).2) ∧ lC c.1 c.2 c.3 c.4.length c.5.length c.6.length c.7.length (cN c.4) (cI c.5) (cL c.6) (cK c.7) fun (c_2 : Cir) => bif !flatB c_2 (gI (gL c.6 i).2 k) then R (.v (vi64 120)) [] else K [.rnd [0,0,1,1,1,0,0,1,0,0,1,0,1,1,1,1,1,1,1] M, .blk 6, .blk 5, .at [1,1,0,0,1,0,1,1,1,1,1,1,1], .rnd [0,0,1,0,1,1,1,1,1,1,1] M2, .blk 4, .at [1,1,1,1,1,1,1,1]] (St.mk [(9, .v (vi64 (IntKind.wrap .i64 ((↑k : Int) + (1 : Int))))), (8, .p 0 0), (7, .v (vi64 (↑i : Int))), (1, .p 1 0), (4, .p 2 0)] [.cells [.x 3 [(2, i, 0)], .x 3 [(2, i, 1)]] 76, .cells [.v (vi64 c.1), .v (vi64 c.2), .v (vi64 c.3), .x 4 [], .x 5 [], .x 3 [], .x 6 []] 27, .cells [.v (vi64 c.1), .v (vi64 c.2), .v (vi64 c.3)] 140, .ext false (.s false 2 c.6.length (cL c.6)), .ext false (.s false 7 c.4.length (cN c.4)), .ext false (.s false 1 c.5.length (cI c.5)), .ext false (.s false 2 c.7.length (cK c.7))]) else K [.rnd [0,0,1,0,1,1,1,1,1,1,1] M2, .blk 4, .at [1,1,1,1,1,1,1,1]] (St.mk [(7, .v (vi64 (IntKind.wrap .i64 ((↑i : Int) + (1 : Int))))), (1, .p 0 0), (4, .p 1 0)] [.cells [.v (vi64 c.1), .v (vi64 c.2), .v (vi64 c.3), .x 2 [], .x 3 [], .x 4 [], .x 5 []] 27, .cells [.v (vi64 c.1), .v (vi64 c.2), .v (vi64 c.3)] 140, .ext false (.s false 7 c.4.length (cN c.4)), .ext false (.s false 1 c.5.length (cI c.5)), .ext false (.s false 2 c.6.length (cL c.6)), .ext false (.s false 2 c.7.length (cK c.7))])) := by kernel_rfl
theorem rk4 (c : Cir) (k M : Nat) (K : List It → St → Prop) (R : SV → List HO → Prop) : W (xwp Tryz.prog X K55 [] 60 (fxOf Tryz.f39 [] [⟨[0,1,0,1,1,1,1,1,1], [6,1,4], []⟩, ⟨[0,1,0,1,1,1,1,1,1,1], [7,1,4], []⟩, ⟨[0,1,1,1,0,0,1,0,0,1,0,1,1,1,1,1,1,1], [9,8,7,1,4], []⟩, ⟨[0,1,0,1,1,1,1,1,1,1,1], [10,1,4], []⟩, ⟨[0,1,1,1,0,0,1,0,0,1,0,1,1,1,1,1,1,1,1], [12,11,10,1,4], []⟩]) [.lo 1 (.v (.int .i64 (mostK c (gK c.eqs k).1)))] (.at [0,0,1,0,1,1,1,1,1,1,1,1] :: .rnd [0,0,1,0,1,1,1,1,1,1,1,1] M :: [.blk 8, .at [1,1,1,1,1,1,1,1,1]]) ⟨[(10, .v (.int .i64 (k : Int))), (1, .p 0 0), (4, .p 1 0)], [.cells [.v (.int .i64 c.fx), .v (.int .i64 c.ad), .v (.int .i64 c.ins), .x 2 [], .x 3 [], .x 4 [], .x 5 []] 27, .cells [.v (.int .i64 c.fx), .v (.int .i64 c.ad), .v (.int .i64 c.ins)] 140, .ext false (.s false 7 c.nodes.length (cN c.nodes)), .ext false (.s false 1 c.gates.length (cI c.gates)), .ext false (.s false 2 c.looks.length (cL c.looks)), .ext false (.s false 2 c.eqs.length (cK c.eqs))]⟩ K R) = W (bif decide ((↑k : Int) < (↑c.7.length : Int)) then (∀ M : Mem, (0 : Int) ≤ (↑k : Int) ∧ (↑k : Int) < (↑c.7.length : Int)) ∧ (∀ M : Mem, k < List.length c.7) ∧ (∀ M : Mem, 0 + 2 ≤ 2) ∧ bif decide ((gK c.7 k).1 < (2 : Int)) then R (SV.v (vi64 120)) [] else bif decide ((4 : Int) < (gK c.7 k).1) then R (SV.v (vi64 120)) [] else bif decide ((gK c.7 k).2 < (0 : Int)) then R (SV.v (vi64 120)) [] else (∀ M : Mem, (0 : Int) ≤ IntKind.wrap .i64 ((gK c.7 k).1 - (2 : Int)) ∧ IntKind.wrap .i64 ((gK c.7 k).1 - (2 : Int)) < (3 : Int)) ∧ (∀ M : Mem, [SV.v (vi64 c.1), SV.v (vi64 c.2), SV.v (vi64 c.3)][0 + Int.toNat (IntKind.wrap .i64 ((gK c.7 k).1 - (2 : Int))) * 1]? = some (SV.v (vi64 (mostK c (gK c.7 k).1)))) ∧ bif decide (mostK c (gK c.7 k).1 ≤ (gK c.7 k).2) then R (SV.v (vi64 120)) [] else K [It.at [0,1,1,1,0,0,1,0,0,1,0,1,1,1,1,1,1,1,1], It.blk 10, It.blk 9, It.at [1,1,0,0,1,0,1,1,1,1,1,1,1,1], It.rnd [0,0,1,0,1,1,1,1,1,1,1,1] M, It.blk 8, It.at [1,1,1,1,1,1,1,1,1]] (St.mk [(12, SV.v (vi64 0)), (11, SV.p 0 0), (10, SV.v (vi64 (↑k : Int))), (1, SV.p 1 0), (4, SV.p 2 0)] [HO.cells [SV.v (vi64 (gK c.7 k).1), SV.v (vi64 (gK c.7 k).2)] 107, HO.cells [SV.v (vi64 c.1), SV.v (vi64 c.2), SV.v (vi64 c.3), SV.x 3 [], SV.x 4 [], SV.x 5 [], SV.x 6 []] 27, HO.cells [SV.v (vi64 c.1), SV.v (vi64 c.2), SV.v (vi64 c.3)] 140, HO.ext false (Cell.s false 7 c.4.length (cN c.4)), HO.ext false (Cell.s false 1 c.5.length (cI c.5)), HO.ext false (Cell.s false 2 c.6.length (cL c.6)), HO.ext false (Cell.s false 2 c.7.length (cK c.7))]) else lC c.1 c.2 c.3 c.4.length c.5.length c.6.length c.7.length (cN c.4) (cI c.5) (cL c.6) (cK c.7) fun (c : Cir) => (degOk c (degrees c.4) ∧ ∀ (x : List Int × List Int), x ∈ c.6 → List.length x.2 = List.length x.1) ∧ bif decide ((8 : Int) < degP c (degrees c.4)) then R (SV.v (vi64 120)) [] else R (SV.v (vi64 0)) []) := by kernel_rfl
theorem rk5 (c : Cir) (i k M2 M : Nat) (K : List It → St → Prop) (R : SV → List HO → Prop) : W (xwp Tryz.prog X K55 [] 60 (fxOf Tryz.f39 [] [⟨[0,1,0,1,1,1,1,1,1], [6,1,4], []⟩, ⟨[0,1,0,1,1,1,1,1,1,1], [7,1,4], []⟩, ⟨[0,1,1,1,0,0,1,0,0,1,0,1,1,1,1,1,1,1], [9,8,7,1,4], []⟩, ⟨[0,1,0,1,1,1,1,1,1,1,1], [10,1,4], []⟩, ⟨[0,1,1,1,0,0,1,0,0,1,0,1,1,1,1,1,1,1,1], [12,11,10,1,4], []⟩]) [] (.at [0,0,1,1,1,0,0,1,0,0,1,0,1,1,1,1,1,1,1,1] :: .rnd [0,0,1,1,1,0,0,1,0,0,1,0,1,1,1,1,1,1,1,1] M :: [.blk 10, .blk 9, .at [1,1,0,0,1,0,1,1,1,1,1,1,1,1], .rnd [0,0,1,0,1,1,1,1,1,1,1,1] M2, .blk 8, .at [1,1,1,1,1,1,1,1,1]]) ⟨[(12, .v (.int .i64 (k : Int))), (11, .p 0 0), (10, .v (.int .i64 (i : Int))), (1, .p 1 0), (4, .p 2 0)], [.cells [.v (.int .i64 (gK c.eqs i).1), .v (.int .i64 (gK c.eqs i).2)] 107, .cells [.v (.int .i64 c.fx), .v (.int .i64 c.ad), .v (.int .i64 c.ins), .x 3 [], .x 4 [], .x 5 [], .x 6 []] 27, .cells [.v (.int .i64 c.fx), .v (.int .i64 c.ad), .v (.int .i64 c.ins)] 140, .ext false (.s false 7 c.nodes.length (cN c.nodes)), .ext false (.s false 1 c.gates.length (cI c.gates)), .ext false (.s false 2 c.looks.length (cL c.looks)), .ext false (.s false 2 c.eqs.length (cK c.eqs))]⟩ K R) = W (bif decide ((↑k : Int) < (↑i : Int)) then (∀ M : Mem, (0 : Int) ≤ (↑k : Int) ∧ (↑k : Int) < (↑c.7.length : Int)) ∧ (∀ M : Mem, k < List.length c.7) ∧ bif decide ([(gK c.7 k).1, (gK c.7 k).2] = [(gK c.7 i).1, (gK c.7 i).2]) then R (.v (vi64 120)) [] else K [.rnd [0,0,1,1,1,0,0,1,0,0,1,0,1,1,1,1,1,1,1,1] M, .blk 10, .blk 9, .at [1,1,0,0,1,0,1,1,1,1,1,1,1,1], .rnd [0,0,1,0,1,1,1,1,1,1,1,1] M2, .blk 8, .at [1,1,1,1,1,1,1,1,1]] (St.mk [(12, .v (vi64 (IntKind.wrap .i64 ((↑k : Int) + (1 : Int))))), (11, .p 0 0), (10, .v (vi64 (↑i : Int))), (1, .p 1 0), (4, .p 2 0)] [.cells [.v (vi64 (gK c.7 i).1), .v (vi64 (gK c.7 i).2)] 107, .cells [.v (vi64 c.1), .v (vi64 c.2), .v (vi64 c.3), .x 3 [], .x 4 [], .x 5 [], .x 6 []] 27, .cells [.v (vi64 c.1), .v (vi64 c.2), .v (vi64 c.3)] 140, .ext false (.s false 7 c.4.length (cN c.4)), .ext false (.s false 1 c.5.length (cI c.5)), .ext false (.s false 2 c.6.length (cL c.6)), .ext false (.s false 2 c.7.length (cK c.7))]) else K [.rnd [0,0,1,0,1,1,1,1,1,1,1,1] M2, .blk 8, .at [1,1,1,1,1,1,1,1,1]] (St.mk [(10, .v (vi64 (IntKind.wrap .i64 ((↑i : Int) + (1 : Int))))), (1, .p 0 0), (4, .p 1 0)] [.cells [.v (vi64 c.1), .v (vi64 c.2), .v (vi64 c.3), .x 2 [], .x 3 [], .x 4 [], .x 5 []] 27, .cells [.v (vi64 c.1), .v (vi64 c.2), .v (vi64 c.3)] 140, .ext false (.s false 7 c.4.length (cN c.4)), .ext false (.s false 1 c.5.length (cI c.5)), .ext false (.s false 2 c.6.length (cL c.6)), .ext false (.s false 2 c.7.length (cK c.7))])) := by kernel_rfl
theorem rk_in (c : Cir) (hc : c.ok) (i M2 : Nat) (hi : i < c.eqs.length) (Q : SV → List HO → Prop) (no : (∃ j, j < i ∧ gK c.eqs j = gK c.eqs i) → Q (.v (.int .i64 120)) [])
    (next : (¬ ∃ j, j < i ∧ gK c.eqs j = gK c.eqs i) → FOk Tryz.prog Tryz.f39 Q (.rnd [0,0,1,0,1,1,1,1,1,1,1,1] M2 :: [.blk 8, .at [1,1,1,1,1,1,1,1,1]]) ⟨[(10, .v (.int .i64 ((i + 1 : Nat) : Int))), (1, .p 0 0), (4, .p 1 0)], [.cells [.v (.int .i64 c.fx), .v (.int .i64 c.ad), .v (.int .i64 c.ins), .x 2 [], .x 3 [], .x 4 [], .x 5 []] 27, .cells [.v (.int .i64 c.fx), .v (.int .i64 c.ad), .v (.int .i64 c.ins)] 140, .ext false (.s false 7 c.nodes.length (cN c.nodes)), .ext false (.s false 1 c.gates.length (cI c.gates)), .ext false (.s false 2 c.looks.length (cL c.looks)), .ext false (.s false 2 c.eqs.length (cK c.eqs))]⟩) : ∀ (d k : Nat), k + d = i → (∀ j, j < k → gK c.eqs j ≠ gK c.eqs i) →
    FOk Tryz.prog Tryz.f39 Q (.rnd [0,0,1,1,1,0,0,1,0,0,1,0,1,1,1,1,1,1,1,1] (d + 1) :: [.blk 10, .blk 9, .at [1,1,0,0,1,0,1,1,1,1,1,1,1,1], .rnd [0,0,1,0,1,1,1,1,1,1,1,1] M2, .blk 8, .at [1,1,1,1,1,1,1,1,1]]) ⟨[(12, .v (.int .i64 (k : Int))), (11, .p 0 0), (10, .v (.int .i64 (i : Int))), (1, .p 1 0), (4, .p 2 0)], [.cells [.v (.int .i64 (gK c.eqs i).1), .v (.int .i64 (gK c.eqs i).2)] 107, .cells [.v (.int .i64 c.fx), .v (.int .i64 c.ad), .v (.int .i64 c.ins), .x 3 [], .x 4 [], .x 5 [], .x 6 []] 27, .cells [.v (.int .i64 c.fx), .v (.int .i64 c.ad), .v (.int .i64 c.ins)] 140, .ext false (.s false 7 c.nodes.length (cN c.nodes)), .ext false (.s false 1 c.gates.length (cI c.gates)), .ext false (.s false 2 c.looks.length (cL c.looks)), .ext false (.s false 2 c.eqs.length (cK c.eqs))]⟩
  | 0, k, hd, he => by
    have h1 := hc.e.2
    refine FOk.rnd (run_sound hm 60 ((rk5 c i k M2 0 _ _).mpr ⟨?_⟩))
    rw [cond_dec, if_neg (by omega), wrap_inc i (by omega)]
    exact next fun ⟨j, hj, e⟩ => he j (by omega) e
  | d + 1, k, hd, he => by
    have h1 := hc.e.2
    refine FOk.rnd (run_sound hm 60 ((rk5 c i k M2 (d + 1) _ _).mpr ⟨?_⟩))
    rw [cond_dec, if_pos (by omega), wrap_inc k (by omega), cond_dec]
    refine And.intro (fun _ => by omega) (And.intro (fun _ => by omega) (ite_intro (fun h => ?_) (fun h => ?_)))
    · exact no ⟨k, by omega, prK_inj.1 h⟩
    · refine rk_in c hc i M2 hi Q no next d (k + 1) (by omega) fun j hj => ?_
      by_cases hjk : j = k
      · rw [hjk]; exact fun e => h (prK_inj.2 e)
      · exact he j (by omega)
theorem rk_eqs (c : Cir) (hc : c.ok) (h0 : chkN c.nodes c.fx c.ad c.ins = 0) (hct : cntB c = true) (hg : c.gates.any (fun n => !placeB c n) = false) (hl : c.looks.any (fun x => !lookB c x) = false) (Q : SV → List HO → Prop) (yes : goodB c = true → Q (.v (.int .i64 0)) []) (no : goodB c = false → Q (.v (.int .i64 120)) []) : ∀ (d k : Nat), k + d = c.eqs.length → eqF c [] c.eqs = eqF c (c.eqs.take k) (c.eqs.drop k) →
    FOk Tryz.prog Tryz.f39 Q (.rnd [0,0,1,0,1,1,1,1,1,1,1,1] (d + 1) :: [.blk 8, .at [1,1,1,1,1,1,1,1,1]]) ⟨[(10, .v (.int .i64 (k : Int))), (1, .p 0 0), (4, .p 1 0)], [.cells [.v (.int .i64 c.fx), .v (.int .i64 c.ad), .v (.int .i64 c.ins), .x 2 [], .x 3 [], .x 4 [], .x 5 []] 27, .cells [.v (.int .i64 c.fx), .v (.int .i64 c.ad), .v (.int .i64 c.ins)] 140, .ext false (.s false 7 c.nodes.length (cN c.nodes)), .ext false (.s false 1 c.gates.length (cI c.gates)), .ext false (.s false 2 c.looks.length (cL c.looks)), .ext false (.s false 2 c.eqs.length (cK c.eqs))]⟩
  | 0, k, hd, he => by
    refine FOk.rnd (run_sound hm 60 ((rk4 c k 0 _ _).mpr ⟨?_⟩))
    rw [cond_dec, if_neg (by omega)]
    rw [show k = c.eqs.length by omega, List.drop_length, eqF] at he
    refine lC_mk c hc ⟨⟨degOk_of h0 hg hl, fun x hx => (look_places (any_not hl x hx)).2.2.2.2⟩, ?_⟩
    rw [cond_dec]
    refine ite_intro (fun h => no ?_) (fun h => yes ?_)
    · rw [goodB, decide_eq_false (by omega)]; simp
    · rw [goodB, hct, hg, hl, he, decide_eq_true (by omega)]; rfl
  | d + 1, k, hd, he => by
    have hk : k < c.eqs.length := by omega
    rw [drop_gK hk, eqF] at he
    have bad : (okK c (gK c.eqs k) && !decide (gK c.eqs k ∈ c.eqs.take k)) = false → Q (.v (.int .i64 120)) [] := fun h => no (by rw [goodB, he, h]; simp)
    refine FOk.rnd (run_sound hm 60 ((rk4 c k (d + 1) _ _).mpr ⟨?_⟩))
    rw [cond_dec, if_pos (by omega)]
    simp only [cond_dec]
    refine And.intro (fun _ => by omega) (And.intro (fun _ => by omega) (And.intro (fun _ => by omega) (ite_intro (fun h1 => bad ?_) (fun h1 => ite_intro (fun h2 => bad ?_) (fun h2 => ite_intro (fun h3 => bad ?_) (fun h3 => And.intro (fun _ => ?_) (And.intro (fun _ => ?_) (ite_intro (fun h4 => bad ?_) (fun h4 => ?_)))))))))
    · rw [okK, decide_eq_false (by omega)]; rfl
    · rw [okK, decide_eq_false (by omega)]; rfl
    · rw [okK, decide_eq_false (by omega)]; rfl
    · rw [wrap_in ((gK c.eqs k).1 - 2) (by omega)]; omega
    · exact cnt_at c (by omega) (by omega)
    · rw [okK, decide_eq_false (by omega)]; rfl
    · refine FOk.loop (k + 1) (by kernel_rfl) (rk_in c hc k (d + 1) hk Q (fun hx => bad ?_) (fun hx => ?_) k 0 (by omega) (fun j hj => by omega))
      · rw [decide_eq_true ((mem_takeK hk).2 hx)]; simp
      · refine rk_eqs c hc h0 hct hg hl Q yes no d (k + 1) (by omega) ?_
        rw [he, okK, decide_eq_true (by omega), decide_eq_false (fun hh => hx ((mem_takeK hk).1 hh)), take_gK hk]; rfl
theorem rk_lin (c : Cir) (hc : c.ok) (i M2 : Nat) (hi : i < c.looks.length) (hA : 1 ≤ (gL c.looks i).1.length ∧ (gL c.looks i).1.length ≤ 4 ∧ (gL c.looks i).2.length = (gL c.looks i).1.length) (Q : SV → List HO → Prop) (no : lookB c (gL c.looks i) = false → Q (.v (.int .i64 120)) [])
    (next : lookB c (gL c.looks i) = true → FOk Tryz.prog Tryz.f39 Q (.rnd [0,0,1,0,1,1,1,1,1,1,1] M2 :: [.blk 4, .at [1,1,1,1,1,1,1,1]]) ⟨[(7, .v (.int .i64 ((i + 1 : Nat) : Int))), (1, .p 0 0), (4, .p 1 0)], [.cells [.v (.int .i64 c.fx), .v (.int .i64 c.ad), .v (.int .i64 c.ins), .x 2 [], .x 3 [], .x 4 [], .x 5 []] 27, .cells [.v (.int .i64 c.fx), .v (.int .i64 c.ad), .v (.int .i64 c.ins)] 140, .ext false (.s false 7 c.nodes.length (cN c.nodes)), .ext false (.s false 1 c.gates.length (cI c.gates)), .ext false (.s false 2 c.looks.length (cL c.looks)), .ext false (.s false 2 c.eqs.length (cK c.eqs))]⟩) : ∀ (d k : Nat), k + d = (gL c.looks i).1.length → ((gL c.looks i).1.take k).any (fun n => !flatB c n) = false → ((gL c.looks i).2.take k).any (fun n => !flatB c n) = false →
    FOk Tryz.prog Tryz.f39 Q (.rnd [0,0,1,1,1,0,0,1,0,0,1,0,1,1,1,1,1,1,1] (d + 1) :: [.blk 6, .blk 5, .at [1,1,0,0,1,0,1,1,1,1,1,1,1], .rnd [0,0,1,0,1,1,1,1,1,1,1] M2, .blk 4, .at [1,1,1,1,1,1,1,1]]) ⟨[(9, .v (.int .i64 (k : Int))), (8, .p 0 0), (7, .v (.int .i64 (i : Int))), (1, .p 1 0), (4, .p 2 0)], [.cells [.x 3 [(2, i, 0)], .x 3 [(2, i, 1)]] 76, .cells [.v (.int .i64 c.fx), .v (.int .i64 c.ad), .v (.int .i64 c.ins), .x 4 [], .x 5 [], .x 3 [], .x 6 []] 27, .cells [.v (.int .i64 c.fx), .v (.int .i64 c.ad), .v (.int .i64 c.ins)] 140, .ext false (.s false 2 c.looks.length (cL c.looks)), .ext false (.s false 7 c.nodes.length (cN c.nodes)), .ext false (.s false 1 c.gates.length (cI c.gates)), .ext false (.s false 2 c.eqs.length (cK c.eqs))]⟩
  | 0, k, hd, e1, e2 => by
    have h1 := hc.l.2
    refine FOk.rnd (run_sound hm 60 ((rk3 c i k M2 0 _ _).mpr ⟨?_⟩))
    refine And.intro (fun _ => hi) ?_
    rw [cond_dec, if_neg (by omega), wrap_inc i (by omega)]
    rw [show k = (gL c.looks i).1.length by omega, List.take_length] at e1
    rw [show k = (gL c.looks i).2.length by omega, List.take_length] at e2
    exact next (by rw [lookB, e1, e2, decide_eq_true hA]; rfl)
  | d + 1, k, hd, e1, e2 => by
    have hk : k < (gL c.looks i).1.length := by omega
    have hk2 : k < (gL c.looks i).2.length := by omega
    refine FOk.rnd (run_sound hm 60 ((rk3 c i k M2 (d + 1) _ _).mpr ⟨?_⟩))
    refine And.intro (fun _ => hi) ?_
    rw [cond_dec, if_pos (by omega), wrap_inc k (by omega)]
    refine And.intro (fun _ => by omega) (And.intro (fun _ => by omega) (And.intro (fun _ => by omega) (And.intro (fun _ => by omega) (lC_mk c hc (cond_intro (fun h => no ?_) (fun h => And.intro (fun _ => by omega) (And.intro (fun _ => by omega) (And.intro (fun _ => by omega) (And.intro (fun _ => by omega) (lC_mk c hc (cond_intro (fun h2 => no ?_) (fun h2 => ?_))))))))))))
    · rw [lookB, any_at (gI_mem hk) h]; simp
    · rw [lookB, any_at (gI_mem hk2) h2]; simp
    · exact rk_lin c hc i M2 hi hA Q no next d (k + 1) (by omega) (by rw [any_takeI hk, e1, h]; rfl) (by rw [any_takeI hk2, e2, h2]; rfl)
theorem rk_looks (c : Cir) (hc : c.ok) (h0 : chkN c.nodes c.fx c.ad c.ins = 0) (hct : cntB c = true) (hg : c.gates.any (fun n => !placeB c n) = false) (Q : SV → List HO → Prop) (yes : goodB c = true → Q (.v (.int .i64 0)) []) (no : goodB c = false → Q (.v (.int .i64 120)) []) : ∀ (d k : Nat), k + d = c.looks.length → (c.looks.take k).any (fun x => !lookB c x) = false →
    FOk Tryz.prog Tryz.f39 Q (.rnd [0,0,1,0,1,1,1,1,1,1,1] (d + 1) :: [.blk 4, .at [1,1,1,1,1,1,1,1]]) ⟨[(7, .v (.int .i64 (k : Int))), (1, .p 0 0), (4, .p 1 0)], [.cells [.v (.int .i64 c.fx), .v (.int .i64 c.ad), .v (.int .i64 c.ins), .x 2 [], .x 3 [], .x 4 [], .x 5 []] 27, .cells [.v (.int .i64 c.fx), .v (.int .i64 c.ad), .v (.int .i64 c.ins)] 140, .ext false (.s false 7 c.nodes.length (cN c.nodes)), .ext false (.s false 1 c.gates.length (cI c.gates)), .ext false (.s false 2 c.looks.length (cL c.looks)), .ext false (.s false 2 c.eqs.length (cK c.eqs))]⟩
  | 0, k, hd, he => by
    refine FOk.rnd (run_sound hm 60 ((rk2 c k 0 _ _).mpr ⟨?_⟩))
    rw [cond_dec, if_neg (by omega)]
    rw [show k = c.looks.length by omega, List.take_length] at he
    exact FOk.loop (c.eqs.length + 1) (by kernel_rfl) (rk_eqs c hc h0 hct hg he Q yes no c.eqs.length 0 (by omega) rfl)
  | d + 1, k, hd, he => by
    have hk : k < c.looks.length := by omega
    have bad : lookB c (gL c.looks k) = false → Q (.v (.int .i64 120)) [] := fun h => no (by
      have : c.looks.any (fun x => !lookB c x) = true := any_at (gL_mem hk) (by rw [h]; rfl)
      rw [goodB, this]; simp)
    refine FOk.rnd (run_sound hm 60 ((rk2 c k (d + 1) _ _).mpr ⟨?_⟩))
    rw [cond_dec, if_pos (by omega)]
    simp only [cond_dec, cond_not, cond_beq]
    refine And.intro (fun _ => by omega) (And.intro (fun _ => by omega) (And.intro (fun _ => by omega) (And.intro (fun _ => by omega) (ite_intro (fun h1 => bad ?_) (fun h1 => And.intro (fun _ => by omega) (ite_intro (fun h2 => bad ?_) (fun h2 => And.intro (fun _ => by omega) (And.intro (fun _ => by omega) (ite_intro (fun h3 => ?_) (fun h3 => bad ?_))))))))))
    · rw [lookB, decide_eq_false (by omega)]; rfl
    · rw [lookB, decide_eq_false (by omega)]; rfl
    · exact FOk.loop ((gL c.looks k).1.length + 1) (by kernel_rfl) (rk_lin c hc k (d + 1) hk ⟨by omega, by omega, by omega⟩ Q bad (fun h => rk_looks c hc h0 hct hg Q yes no d (k + 1) (by omega) (by rw [any_takeL hk, he, h]; rfl)) (gL c.looks k).1.length 0 (by omega) rfl rfl)
    · rw [lookB, decide_eq_false (by omega)]; rfl
theorem rk_gates (c : Cir) (hc : c.ok) (h0 : chkN c.nodes c.fx c.ad c.ins = 0) (hct : cntB c = true) (Q : SV → List HO → Prop) (yes : goodB c = true → Q (.v (.int .i64 0)) []) (no : goodB c = false → Q (.v (.int .i64 120)) []) : ∀ (d k : Nat), k + d = c.gates.length → (c.gates.take k).any (fun n => !placeB c n) = false →
    FOk Tryz.prog Tryz.f39 Q (.rnd [0,0,1,0,1,1,1,1,1,1] (d + 1) :: [.blk 2, .at [1,1,1,1,1,1,1]]) ⟨[(6, .v (.int .i64 (k : Int))), (1, .p 0 0), (4, .p 1 0)], [.cells [.v (.int .i64 c.fx), .v (.int .i64 c.ad), .v (.int .i64 c.ins), .x 2 [], .x 3 [], .x 4 [], .x 5 []] 27, .cells [.v (.int .i64 c.fx), .v (.int .i64 c.ad), .v (.int .i64 c.ins)] 140, .ext false (.s false 7 c.nodes.length (cN c.nodes)), .ext false (.s false 1 c.gates.length (cI c.gates)), .ext false (.s false 2 c.looks.length (cL c.looks)), .ext false (.s false 2 c.eqs.length (cK c.eqs))]⟩
  | 0, k, hd, he => by
    refine FOk.rnd (run_sound hm 60 ((rk1 c k 0 _ _).mpr ⟨?_⟩))
    rw [cond_dec, if_neg (by omega)]
    rw [show k = c.gates.length by omega, List.take_length] at he
    exact FOk.loop (c.looks.length + 1) (by kernel_rfl) (rk_looks c hc h0 hct he Q yes no c.looks.length 0 (by omega) rfl)
  | d + 1, k, hd, he => by
    have hk : k < c.gates.length := by omega
    have h1 := hc.g.2
    have bad : placeB c (gI c.gates k) = false → Q (.v (.int .i64 120)) [] := fun h => no (by
      have : c.gates.any (fun n => !placeB c n) = true := any_at (gI_mem hk) (by rw [h]; rfl)
      rw [goodB, this]; simp)
    refine FOk.rnd (run_sound hm 60 ((rk1 c k (d + 1) _ _).mpr ⟨?_⟩))
    rw [cond_dec, if_pos (by omega), wrap_inc k (by omega)]
    simp only [cond_dec, cond_not]
    refine And.intro (fun _ => by omega) (And.intro (fun _ => by omega) (ite_intro (fun h1 => ite_intro (fun h2 => ?_) (fun h2 => bad (decide_eq_false (by omega)))) (fun h1 => bad (decide_eq_false (by omega)))))
    exact rk_gates c hc h0 hct Q yes no d (k + 1) (by omega) (by rw [any_takeI hk, he, placeB, decide_eq_true ⟨h1, h2⟩]; rfl)
theorem bRk : Tryz.f39.body.isSome = true := by kernel_rfl
theorem nRk (c : Cir) : Nat.ble [(.agg [.v (.int .i64 c.fx), .v (.int .i64 c.ad), .v (.int .i64 c.ins), .x 0 [], .x 1 [], .x 2 [], .x 3 []] : SV)].length Tryz.f39.ntmps = true := by kernel_rfl
theorem rk_ok (c : Cir) (hc : c.ok) (Q : SV → List HO → Prop) (hq : Q (.v (.int .i64 (chkC c))) []) : FnOk Tryz.prog 39 [.agg [.v (.int .i64 c.fx), .v (.int .i64 c.ad), .v (.int .i64 c.ins), .x 0 [], .x 1 [], .x 2 [], .x 3 []]] [.ext false (.s false 7 c.nodes.length (cN c.nodes)), .ext false (.s false 1 c.gates.length (cI c.gates)), .ext false (.s false 2 c.looks.length (cL c.looks)), .ext false (.s false 2 c.eqs.length (cK c.eqs))] Q := by
  refine fn_of_ok Tryz.func39 bRk ?_ ?_
  · exact nRk c
  have h1 := hc.n.2
  refine run_sound hm 60 ((rkS c _ _).mpr ⟨?_⟩)
  refine ⟨c.nodes, rfl, IsC.refl _ _ _, by omega, ?_⟩
  simp only [cond_dec, cond_not, cond_beq]
  refine ite_intro (fun h0 => ?_) (fun h0 => ?_)
  · have no : goodB c = false → Q (.v (.int .i64 120)) [] := fun h => by
      rw [(chkC_bad h0 h).1] at hq
      exact hq
    have yes : goodB c = true → Q (.v (.int .i64 0)) [] := fun h => by
      rw [(chkC_good h0 h).1] at hq
      exact hq
    have bad : ¬ cntOk c → Q (.v (.int .i64 120)) [] := fun h => no (by rw [goodB, cntB, decide_eq_false h]; rfl)
    have go : cntOk c → FOk Tryz.prog Tryz.f39 Q (.rnd [0,0,1,0,1,1,1,1,1,1] (c.gates.length + 1) :: [.blk 2, .at [1,1,1,1,1,1,1]]) ⟨[(6, .v (.int .i64 ((0 : Nat) : Int))), (1, .p 0 0), (4, .p 1 0)], [.cells [.v (.int .i64 c.fx), .v (.int .i64 c.ad), .v (.int .i64 c.ins), .x 2 [], .x 3 [], .x 4 [], .x 5 []] 27, .cells [.v (.int .i64 c.fx), .v (.int .i64 c.ad), .v (.int .i64 c.ins)] 140, .ext false (.s false 7 c.nodes.length (cN c.nodes)), .ext false (.s false 1 c.gates.length (cI c.gates)), .ext false (.s false 2 c.looks.length (cL c.looks)), .ext false (.s false 2 c.eqs.length (cK c.eqs))]⟩ := fun h =>
      rk_gates c hc h0 (decide_eq_true h) Q yes no c.gates.length 0 (by omega) rfl
    unfold cntOk at bad go
    clear hq yes no
    repeat' (first | refine And.intro (fun _ => by omega) ?_ | refine ite_intro (fun _ => ?_) (fun _ => ?_))
    all_goals first
      | (refine bad (fun h => ?_); omega)
      | exact FOk.loop (c.gates.length + 1) (by kernel_rfl) (go (by omega))
  · rw [chkC, if_neg h0] at hq
    exact hq
noncomputable def gRk : List SV → List HO → Option ((SV → List HO → Prop) → Prop)
  | [.agg [.v (.int .i64 fx), .v (.int .i64 ad), .v (.int .i64 ins), .x 0 [], .x 1 [], .x 2 [], .x 3 []]], [.ext false (.s false 7 n0 c0), .ext false (.s false 1 n1 c1), .ext false (.s false 2 n2 c2), .ext false (.s false 2 n3 c3)] =>
    some fun Q => lC fx ad ins n0 n1 n2 n3 c0 c1 c2 c3 fun c => Q (.v (.int .i64 (chkC c))) []
  | _, _ => none
theorem gRk_ok (args : List SV) (h : List HO) (tr : (SV → List HO → Prop) → Prop) (Q : SV → List HO → Prop) (hc : gRk args h = some tr) (ht : tr Q) : FnOk Tryz.prog 39 args h Q := by
  unfold gRk at hc
  split at hc
  · rename_i fx ad ins n0 c0 n1 c1 n2 c2 n3 c3
    simp only [Option.some.injEq] at hc
    subst hc
    obtain ⟨c, rfl, rfl, rfl, ⟨rfl, e0⟩, ⟨rfl, e1⟩, ⟨rfl, e2⟩, ⟨rfl, e3⟩, hk, hq⟩ := ht.h
    exact FnOk.ac (rk_ok c hk Q hq) ⟨⟨rfl, rfl, rfl, rfl, e0⟩, ⟨rfl, rfl, rfl, rfl, e1⟩, ⟨rfl, rfl, rfl, rfl, e2⟩, ⟨rfl, rfl, rfl, rfl, e3⟩, trivial⟩
  · cases hc
noncomputable def K56 : Con Tryz.prog := K55.add 39 gRk gRk_ok
end Go.Proofs.YtlmjdcbhpffanaaGreat
/- Degree and Rows, by the document; great. -/
namespace Go.Pl
open Go.Sx
theorem chkC_zero {c : Cir} (h : chkC c = 0) : chkN c.nodes c.fx c.ad c.ins = 0 ∧ goodB c = true := by
  rw [chkC] at h
  split at h
  · rename_i h0
    refine ⟨h0, ?_⟩
    cases hg : goodB c with
    | true => rfl
    | false => rw [hg] at h; cases h
  · rename_i h0; exact absurd h h0
theorem goodB_all {c : Cir} (h : goodB c = true) : cntB c = true ∧ c.gates.any (fun n => !placeB c n) = false ∧ c.looks.any (fun x => !lookB c x) = false ∧ eqF c [] c.eqs = true ∧ degP c (degrees c.nodes) ≤ 8 := by
  simp only [goodB, Bool.and_eq_true, Bool.not_eq_true', decide_eq_true_eq] at h
  exact ⟨h.1.1.1.1, h.1.1.1.2, h.1.1.2, h.1.2, h.2⟩
end Go.Pl
namespace Go.Proofs.YtlmjdcbhpffanaaGreat
open Go.Sx Go.Pl
set_option linter.unusedVariables false
set_option maxRecDepth 100000
theorem rrS (c : Cir) (k x : Int) (K : List It → St → Prop) (R : SV → List HO → Prop) : W (xwp Tryz.prog X K56 [(76, [])] 60 (fxOf Tryz.f64 [] [⟨[0,1,0,1,1,1,1,1], [11,10,9,8,1], []⟩]) [] [.at []] ⟨argsS 0 [.agg [.v (.int .i64 c.fx), .v (.int .i64 c.ad), .v (.int .i64 c.ins), .x 0 [], .x 1 [], .x 2 [], .x 3 []], .v (.int .i64 k), .v (.int .i64 x)], [.ext false (.s false 7 c.nodes.length (cN c.nodes)), .ext false (.s false 1 c.gates.length (cI c.gates)), .ext false (.s false 2 c.looks.length (cL c.looks)), .ext false (.s false 2 c.eqs.length (cK c.eqs))]⟩ K R) = W (lC c.1 c.2 c.3 c.4.length c.5.length c.6.length c.7.length (cN c.4) (cI c.5) (cL c.6) (cK c.7) fun (c_1 : Cir) => bif !chkC c_1 == (0 : Int) then R (.tup [.v (vi64 0), .v (vi64 0)]) [] else bif decide ((0 : Int) ≤ x) then bif !decide (x < (↑c.4.length : Int)) then R (.tup [.v (vi64 0), .v (vi64 0)]) [] else lC c.1 c.2 c.3 c.4.length c.5.length c.6.length c.7.length (cN c.4) (cI c.5) (cL c.6) (cK c.7) fun (c : Cir) => K [.at [0,1,0,1,1,1,1,1], .blk 0, .at [1,1,1,1,1,1]] (St.mk [(11, .v (vi64 0)), (10, .v (vi64 (usN k))), (9, .v (vi64 0)), (8, .o 0), (1, .v (vi64 k))] [.rowc 156 3 (List.length (coneQ c x)) (.fn (cQ (coneQ c x)))]) else R (.tup [.v (vi64 0), .v (vi64 0)]) []) := by kernel_rfl
theorem rrR (l : List (Int × Int × Int)) (f t kk : Int) (k M : Nat) (K : List It → St → Prop) (R : SV → List HO → Prop) : W (xwp Tryz.prog X K56 [] 60 (fxOf Tryz.f64 [] [⟨[0,1,0,1,1,1,1,1], [11,10,9,8,1], []⟩]) [] (.at [0,0,1,0,1,1,1,1,1] :: .rnd [0,0,1,0,1,1,1,1,1] M :: [.blk 0, .at [1,1,1,1,1,1]]) ⟨[(11, .v (.int .i64 (k : Int))), (10, .v (.int .i64 t)), (9, .v (.int .i64 f)), (8, .o 0), (1, .v (.int .i64 kk))], [.rowc 156 3 l.length (.fn (cQ l))]⟩ K R) = W (bif decide ((↑k : Int) < (↑(List.length l) : Int)) then (∀ M : Mem, (0 : Int) ≤ (↑k : Int) ∧ (↑k : Int) < (↑(List.length l) : Int)) ∧ (∀ M : Mem, k < List.length l) ∧ (∀ M : Mem, k < List.length l) ∧ bif decide (f < IntKind.wrap .i64 ((0 : Int) - (gQ l k).2.2)) then (∀ M : Mem, (0 : Int) ≤ (↑k : Int) ∧ (↑k : Int) < (↑(List.length l) : Int)) ∧ (∀ M : Mem, k < List.length l) ∧ (∀ M : Mem, k < List.length l) ∧ (∀ M : Mem, (0 : Int) ≤ (↑k : Int) ∧ (↑k : Int) < (↑(List.length l) : Int)) ∧ (∀ M : Mem, k < List.length l) ∧ (∀ M : Mem, k < List.length l) ∧ bif decide (IntKind.wrap .i64 (usN kk - (gQ l k).2.2) < t) then (∀ M : Mem, (0 : Int) ≤ (↑k : Int) ∧ (↑k : Int) < (↑(List.length l) : Int)) ∧ (∀ M : Mem, k < List.length l) ∧ (∀ M : Mem, k < List.length l) ∧ K [.rnd [0,0,1,0,1,1,1,1,1] M, .blk 0, .at [1,1,1,1,1,1]] (St.mk [(11, .v (vi64 (IntKind.wrap .i64 ((↑k : Int) + (1 : Int))))), (10, .v (vi64 (IntKind.wrap .i64 (usN kk - (gQ l k).2.2)))), (9, .v (vi64 (IntKind.wrap .i64 ((0 : Int) - (gQ l k).2.2)))), (8, .o 0), (1, .v (vi64 kk))] [.rowc 156 3 (List.length l) (.fn (cQ l))]) else K [.rnd [0,0,1,0,1,1,1,1,1] M, .blk 0, .at [1,1,1,1,1,1]] (St.mk [(11, .v (vi64 (IntKind.wrap .i64 ((↑k : Int) + (1 : Int))))), (10, .v (vi64 t)), (9, .v (vi64 (IntKind.wrap .i64 ((0 : Int) - (gQ l k).2.2)))), (8, .o 0), (1, .v (vi64 kk))] [.rowc 156 3 (List.length l) (.fn (cQ l))]) else (∀ M : Mem, (0 : Int) ≤ (↑k : Int) ∧ (↑k : Int) < (↑(List.length l) : Int)) ∧ (∀ M : Mem, k < List.length l) ∧ (∀ M : Mem, k < List.length l) ∧ bif decide (IntKind.wrap .i64 (usN kk - (gQ l k).2.2) < t) then (∀ M : Mem, (0 : Int) ≤ (↑k : Int) ∧ (↑k : Int) < (↑(List.length l) : Int)) ∧ (∀ M : Mem, k < List.length l) ∧ (∀ M : Mem, k < List.length l) ∧ K [.rnd [0,0,1,0,1,1,1,1,1] M, .blk 0, .at [1,1,1,1,1,1]] (St.mk [(11, .v (vi64 (IntKind.wrap .i64 ((↑k : Int) + (1 : Int))))), (10, .v (vi64 (IntKind.wrap .i64 (usN kk - (gQ l k).2.2)))), (9, .v (vi64 f)), (8, .o 0), (1, .v (vi64 kk))] [.rowc 156 3 (List.length l) (.fn (cQ l))]) else K [.rnd [0,0,1,0,1,1,1,1,1] M, .blk 0, .at [1,1,1,1,1,1]] (St.mk [(11, .v (vi64 (IntKind.wrap .i64 ((↑k : Int) + (1 : Int))))), (10, .v (vi64 t)), (9, .v (vi64 f)), (8, .o 0), (1, .v (vi64 kk))] [.rowc 156 3 (List.length l) (.fn (cQ l))]) else bif decide (t ≤ f) then R (.tup [.v (vi64 0), .v (vi64 0)]) [] else R (.tup [.v (vi64 f), .v (vi64 t)]) []) := by kernel_rfl
theorem rr_loop (l : List (Int × Int × Int)) (hl : l.length ≤ 4398046511104) (kk : Int) (Q : SV → List HO → Prop) (hq : Q (.tup [.v (.int .i64 (rowsQ l kk).1), .v (.int .i64 (rowsQ l kk).2)]) []) : ∀ (d k : Nat) (f t : Int), k + d = l.length → f = (l.take k).foldl frQ 0 → t = (l.take k).foldl (toQ kk) (usN kk) →
    FOk Tryz.prog Tryz.f64 Q (.rnd [0,0,1,0,1,1,1,1,1] (d + 1) :: [.blk 0, .at [1,1,1,1,1,1]]) ⟨[(11, .v (.int .i64 (k : Int))), (10, .v (.int .i64 t)), (9, .v (.int .i64 f)), (8, .o 0), (1, .v (.int .i64 kk))], [.rowc 156 3 l.length (.fn (cQ l))]⟩
  | 0, k, f, t, hd, hf, ht => by
    refine FOk.rnd (run_sound hm 60 ((rrR l f t kk k 0 _ _).mpr ⟨?_⟩))
    rw [cond_dec, if_neg (by omega), cond_dec]
    rw [show k = l.length by omega, List.take_length] at hf ht
    rw [hf, ht]
    rw [rowsQ] at hq
    refine ite_intro (fun h => ?_) (fun h => ?_)
    · rw [if_pos h] at hq; exact hq
    · rw [if_neg h] at hq; exact hq
  | d + 1, k, f, t, hd, hf, ht => by
    have hk : k < l.length := by omega
    have rec' := rr_loop l hl kk Q hq d (k + 1) (frQ f (gQ l k)) (toQ kk t (gQ l k)) (by omega) (by rw [foldl_takeQ _ _ hk, ← hf]) (by rw [foldl_takeQ _ _ hk, ← ht])
    refine FOk.rnd (run_sound hm 60 ((rrR l f t kk k (d + 1) _ _).mpr ⟨?_⟩))
    rw [cond_dec, if_pos (by omega), wrap_inc _ (by omega)]
    simp only [cond_dec, forall_const]
    repeat' (first | refine And.intro (by omega) ?_ | refine ite_intro (fun h => ?_) (fun h => ?_))
    all_goals first
      | (rw [frQ, if_pos (by assumption), toQ, if_pos (by assumption)] at rec'; exact rec')
      | (rw [frQ, if_pos (by assumption), toQ, if_neg (by assumption)] at rec'; exact rec')
      | (rw [frQ, if_neg (by assumption), toQ, if_pos (by assumption)] at rec'; exact rec')
      | (rw [frQ, if_neg (by assumption), toQ, if_neg (by assumption)] at rec'; exact rec')
theorem bRr : Tryz.f64.body.isSome = true := by kernel_rfl
theorem nRr (c : Cir) (k x : Int) : Nat.ble [(.agg [.v (.int .i64 c.fx), .v (.int .i64 c.ad), .v (.int .i64 c.ins), .x 0 [], .x 1 [], .x 2 [], .x 3 []] : SV), .v (.int .i64 k), .v (.int .i64 x)].length Tryz.f64.ntmps = true := by kernel_rfl
theorem rr_ok (c : Cir) (hc : c.ok) (k x : Int) (Q : SV → List HO → Prop) (hq : Q (.tup [.v (.int .i64 (rowsV c k x).1), .v (.int .i64 (rowsV c k x).2)]) []) : FnOk Tryz.prog 64 [.agg [.v (.int .i64 c.fx), .v (.int .i64 c.ad), .v (.int .i64 c.ins), .x 0 [], .x 1 [], .x 2 [], .x 3 []], .v (.int .i64 k), .v (.int .i64 x)] [.ext false (.s false 7 c.nodes.length (cN c.nodes)), .ext false (.s false 1 c.gates.length (cI c.gates)), .ext false (.s false 2 c.looks.length (cL c.looks)), .ext false (.s false 2 c.eqs.length (cK c.eqs))] Q := by
  refine fn_of_ok Tryz.func64 bRr ?_ ?_
  · exact nRr c k x
  have h1 := hc.n.2
  have h2 := coneQ_len c x
  refine run_sound hm 60 ((rrS c k x _ _).mpr ⟨?_⟩)
  have no : ¬ (chkC c = 0 ∧ 0 ≤ x ∧ x < (c.nodes.length : Int)) → Q (.tup [.v (.int .i64 0), .v (.int .i64 0)]) [] := fun h => by
    rw [rowsV, if_neg h] at hq
    exact hq
  simp only [cond_dec, cond_not, cond_beq]
  refine lC_mk c hc (ite_intro (fun a1 => ite_intro (fun a2 => ite_intro (fun a3 => lC_mk c hc ?_) (fun a3 => no (by omega))) (fun a2 => no (by omega))) (fun a1 => no (fun h => a1 h.1)))
  rw [rowsV, if_pos (by omega)] at hq
  exact FOk.loop ((coneQ c x).length + 1) (by kernel_rfl) (rr_loop (coneQ c x) (by omega) k Q hq (coneQ c x).length 0 _ _ (by omega) rfl rfl)
noncomputable def gRr : List SV → List HO → Option ((SV → List HO → Prop) → Prop)
  | [.agg [.v (.int .i64 fx), .v (.int .i64 ad), .v (.int .i64 ins), .x 0 [], .x 1 [], .x 2 [], .x 3 []], .v (.int .i64 k), .v (.int .i64 x)], [.ext false (.s false 7 n0 c0), .ext false (.s false 1 n1 c1), .ext false (.s false 2 n2 c2), .ext false (.s false 2 n3 c3)] =>
    some fun Q => lC fx ad ins n0 n1 n2 n3 c0 c1 c2 c3 fun c => Q (.tup [.v (.int .i64 (rowsV c k x).1), .v (.int .i64 (rowsV c k x).2)]) []
  | _, _ => none
theorem gRr_ok (args : List SV) (h : List HO) (tr : (SV → List HO → Prop) → Prop) (Q : SV → List HO → Prop) (hc : gRr args h = some tr) (ht : tr Q) : FnOk Tryz.prog 64 args h Q := by
  unfold gRr at hc
  split at hc
  · simp only [Option.some.injEq] at hc
    subst hc
    obtain ⟨c, rfl, rfl, rfl, ⟨rfl, e0⟩, ⟨rfl, e1⟩, ⟨rfl, e2⟩, ⟨rfl, e3⟩, hk, hq⟩ := ht.h
    exact FnOk.ac (rr_ok c hk _ _ Q hq) ⟨⟨rfl, rfl, rfl, rfl, e0⟩, ⟨rfl, rfl, rfl, rfl, e1⟩, ⟨rfl, rfl, rfl, rfl, e2⟩, ⟨rfl, rfl, rfl, rfl, e3⟩, trivial⟩
  · cases hc
noncomputable def K57 : Con Tryz.prog := ((K56.add 64 gRr gRr_ok))
end Go.Proofs.YtlmjdcbhpffanaaGreat
/- Tables and sheets; elements copied as frozen memory. -/
namespace Go.Pl
open Go.Sx
def gT (l : List (List Nat)) (k : Nat) : List Nat := l.getD k []
noncomputable def tCell (x : List Nat) (_ : Nat) : Cell := .s false 4 x.length (cE x)
noncomputable def cT (l : List (List Nat)) : Nat → Nat → Cell := fun k j => tCell (gT l k) j
def dP : Int × Int × Int × Int := (0, 0, 0, 0)
def gP (l : List (Int × Int × Int × Int)) (k : Nat) : Int × Int × Int × Int := l.getD k dP
def pCell (x : Int × Int × Int × Int) (j : Nat) : Cell :=
  match j with
  | 0 => .v (.int .i64 x.1)
  | 1 => .v (.int .i64 x.2.1)
  | 2 => .v (.int .i64 x.2.2.1)
  | 3 => .v (.int .i64 x.2.2.2)
  | _ => .v undef
def cP (l : List (Int × Int × Int × Int)) : Nat → Nat → Cell := fun k j => pCell (gP l k) j
structure Sht where
  fx : List (List Nat)
  ad : List (List Nat)
  is : List (List Nat)
  cp : List (Int × Int × Int × Int)
def okT (l : List (List Nat)) : Prop := (∀ x ∈ l, (∀ v ∈ x, v < top) ∧ x.length * 32 ≤ 140737488351232) ∧ l.length * 24 ≤ 140737488351232
structure Sht.ok (s : Sht) : Prop where
  f : okT s.fx
  a : okT s.ad
  i : okT s.is
  c : (∀ x ∈ s.cp, i64 x.1 ∧ i64 x.2.1 ∧ i64 x.2.2.1 ∧ i64 x.2.2.2) ∧ s.cp.length * 32 ≤ 140737488351232
structure lT (n : Nat) (c : Nat → Nat → Cell) (k : List (List Nat) → Prop) : Prop where
  h : ∃ l : List (List Nat), n = l.length ∧ IsC n 1 c (cT l) ∧ okT l ∧ k l
theorem lT_mk {l : List (List Nat)} (h : okT l) {k : List (List Nat) → Prop} (hk : k l) : lT l.length (cT l) k := ⟨⟨l, rfl, IsC.refl _ _ _, h, hk⟩⟩
structure lS (n0 n1 n2 n3 : Nat) (c0 c1 c2 c3 : Nat → Nat → Cell) (k : Sht → Prop) : Prop where
  h : ∃ s : Sht, (n0 = s.fx.length ∧ IsC n0 1 c0 (cT s.fx)) ∧ (n1 = s.ad.length ∧ IsC n1 1 c1 (cT s.ad)) ∧ (n2 = s.is.length ∧ IsC n2 1 c2 (cT s.is)) ∧ (n3 = s.cp.length ∧ IsC n3 4 c3 (cP s.cp)) ∧ s.ok ∧ k s
theorem lS_mk (s : Sht) (hs : s.ok) {k : Sht → Prop} (h : k s) : lS s.fx.length s.ad.length s.is.length s.cp.length (cT s.fx) (cT s.ad) (cT s.is) (cP s.cp) k :=
  ⟨⟨s, ⟨rfl, IsC.refl _ _ _⟩, ⟨rfl, IsC.refl _ _ _⟩, ⟨rfl, IsC.refl _ _ _⟩, ⟨rfl, IsC.refl _ _ _⟩, hs, h⟩⟩
theorem cT_snoc {l : List (List Nat)} {k : Nat} (a : List Nat) (h : l.length = k) : IsC (k + 1) 1 (Ct.app k (.fn (cT l)) (.lit 1 [.s false 4 a.length (cE a)])).at (Ct.fn (cT (l ++ [a]))).at := by
  subst h
  exact ofL_snoc tCell [] 1 l a _ fun j hj => by
    match j, hj with
    | 0, _ => rfl
theorem gT_mem {l : List (List Nat)} {k : Nat} (h : k < l.length) : gT l k ∈ l := by
  rw [gT, List.getD_eq_getElem?_getD, List.getElem?_eq_getElem h]
  exact List.getElem_mem h
theorem take_gT {l : List (List Nat)} {k : Nat} (h : k < l.length) : l.take (k + 1) = l.take k ++ [gT l k] := by
  rw [List.take_add_one, List.getElem?_eq_getElem h, gT, List.getD_eq_getElem?_getD, List.getElem?_eq_getElem h]; rfl
theorem drop_gT {l : List (List Nat)} {k : Nat} (h : k < l.length) : l.drop k = gT l k :: l.drop (k + 1) := by
  rw [List.drop_eq_getElem_cons h, gT, List.getD_eq_getElem?_getD, List.getElem?_eq_getElem h]; rfl
theorem take_gP {l : List (Int × Int × Int × Int)} {k : Nat} (h : k < l.length) : l.take (k + 1) = l.take k ++ [gP l k] := by
  rw [List.take_add_one, List.getElem?_eq_getElem h, gP, List.getD_eq_getElem?_getD, List.getElem?_eq_getElem h]; rfl
theorem drop_gP {l : List (Int × Int × Int × Int)} {k : Nat} (h : k < l.length) : l.drop k = gP l k :: l.drop (k + 1) := by
  rw [List.drop_eq_getElem_cons h, gP, List.getD_eq_getElem?_getD, List.getElem?_eq_getElem h]; rfl
end Go.Pl
namespace Go.Proofs.YtlmjdcbhpffanaaGreat
open Go.Sx Go.Pl
set_option linter.unusedVariables false
set_option maxRecDepth 100000
theorem cex_ok (all : List Nat) (hb : all.length ≤ 4398046511104) (Q : SV → List HO → Prop) (hq : Q (.x 0 []) [.ext false (.s false 4 all.length (cE all))]) : FnOk Tryz.prog 34 [.x 0 []] [.ext false (.s false 4 all.length (cE all))] Q := by
  have h := FnOk.gc (r1 := .x 0 []) (h1 := [.ext false (.s false 4 all.length (cE all))]) rfl (FnOk.frz1 0 rfl (ce_ok all hb (fun r h' => r = .o 0 ∧ h' = [.rowc 53 4 all.length (.fn (cE all))]) ⟨rfl, rfl⟩))
  exact FnOk.mono h fun r h' hh => by rw [hh.1, hh.2]; exact hq
noncomputable def g_cex : List SV → List HO → Option ((SV → List HO → Prop) → Prop)
  | [.x 0 []], [.ext false (.s false 4 n c)] => some fun Q => lE n c fun l => Q (.x 0 []) [.ext false (.s false 4 l.length (cE l))]
  | _, _ => none
theorem g_cex_ok (args : List SV) (h : List HO) (tr : (SV → List HO → Prop) → Prop) (Q : SV → List HO → Prop) (hc : g_cex args h = some tr) (ht : tr Q) : FnOk Tryz.prog 34 args h Q := by
  unfold g_cex at hc
  split at hc
  · simp only [Option.some.injEq] at hc
    subst hc
    obtain ⟨l, rfl, he, hb, hv, hq⟩ := ht.h
    exact FnOk.ac (cex_ok l hb Q hq) ⟨⟨rfl, rfl, rfl, rfl, he⟩, trivial⟩
  · cases hc
noncomputable def K70a : Con Tryz.prog := K57.add 34 g_cex g_cex_ok
end Go.Proofs.YtlmjdcbhpffanaaGreat
/- A table as new memory. -/
namespace Go.Proofs.YtlmjdcbhpffanaaGreat
open Go.Sx Go.Pl
set_option linter.unusedVariables false
set_option maxRecDepth 100000
theorem tbS (l : List (List Nat)) (K : List It → St → Prop) (R : SV → List HO → Prop) : W (xwp Tryz.prog X K70a [] 60 (fxOf Tryz.f35 [] [⟨[0,1,0,1,1], [4,3,0], []⟩]) [] [.at []] ⟨argsS 0 [.x 0 []], [.ext false (.s false 1 l.length (cT l))]⟩ K R) = W (K [.at [0,1,0,1,1], .blk 0, .at [1,1,1]] (St.mk [(4, .v (vi64 0)), (3, .o 0), (0, .x 1 [])] [.rowc 67 1 0 (.lit 1 []), .ext false (.s false 1 (List.length l) (cT l))])) := by kernel_rfl
theorem tbR (l ls : List (List Nat)) (m k M : Nat) (K : List It → St → Prop) (R : SV → List HO → Prop) : W (xwp Tryz.prog X K70a [] 60 (fxOf Tryz.f35 [] [⟨[0,1,0,1,1], [4,3,0], []⟩]) [] (.at [0,0,1,0,1,1] :: .rnd [0,0,1,0,1,1] M :: [.blk 0, .at [1,1,1]]) ⟨[(4, .v (.int .i64 (k : Int))), (3, .o 0), (0, .x 1 [])], [.rowc 67 1 m (.fn (cT ls)), .ext false (.s false 1 l.length (cT l))]⟩ K R) = W (bif decide ((↑k : Int) < (↑(List.length l) : Int)) then (∀ M : Mem, (0 : Int) ≤ (↑k : Int) ∧ (↑k : Int) < (↑(List.length l) : Int)) ∧ (∀ M : Mem, k < List.length l) ∧ (∀ M : Mem, k < List.length l) ∧ lE (List.length (gT l k)) (cE (gT l k)) fun (l_1 : List Nat) => (∀ M : Mem, (m + 1) * 24 ≤ 140737488355328 ∧ m + 1 ≤ 140737488355328) ∧ K [.rnd [0,0,1,0,1,1] M, .blk 0, .at [1,1,1]] (St.mk [(4, .v (vi64 (IntKind.wrap .i64 ((↑k : Int) + (1 : Int))))), (3, .o 0), (0, .x 1 [])] [.rowc 67 1 (m + 1) (.app m (.fn (cT ls)) (.lit 1 [.s false 4 (List.length l_1) (cE l_1)])), .ext false (.s false 1 (List.length l) (cT l))]) else R (.o 0) [.rowc 67 1 m (.fn (cT ls))]) := by kernel_rfl
theorem tb_loop (l : List (List Nat)) (hl : okT l) (Q : SV → List HO → Prop) (hq : Q (.o 0) [.rowc 67 1 l.length (.fn (cT l))]) : ∀ (d k : Nat) (ls : List (List Nat)), k + d = l.length → ls = l.take k →
    FOk Tryz.prog Tryz.f35 Q (.rnd [0,0,1,0,1,1] (d + 1) :: [.blk 0, .at [1,1,1]]) ⟨[(4, .v (.int .i64 (k : Int))), (3, .o 0), (0, .x 1 [])], [.rowc 67 1 k (.fn (cT ls)), .ext false (.s false 1 l.length (cT l))]⟩
  | 0, k, ls, hd, he => by
    refine FOk.rnd (run_sound hm 60 ((tbR l ls k k 0 _ _).mpr ⟨?_⟩))
    rw [cond_dec, if_neg (by omega)]
    rw [show k = l.length by omega, List.take_length] at he
    rw [he, show k = l.length by omega]
    exact hq
  | d + 1, k, ls, hd, he => by
    have hk : k < l.length := by omega
    have h1 := hl.2
    obtain ⟨g0, g1⟩ := hl.1 _ (gT_mem hk)
    have hlen : ls.length = k := by rw [he, List.length_take]; omega
    refine FOk.rnd (run_sound hm 60 ((tbR l ls k k (d + 1) _ _).mpr ⟨?_⟩))
    rw [cond_dec, if_pos (by omega), wrap_inc _ (by omega)]
    refine And.intro (fun _ => by omega) (And.intro (fun _ => by omega) (And.intro (fun _ => by omega) ⟨⟨gT l k, rfl, IsC.refl _ _ _, by omega, g0, And.intro (fun _ => by omega) ?_⟩⟩))
    exact FOk.cv (tb_loop l hl Q hq d (k + 1) (ls ++ [gT l k]) (by omega) (by rw [he, take_gT hk])) ⟨⟨rfl, rfl, rfl, cT_snoc _ hlen⟩, HE.refl _, trivial⟩
theorem bTb : Tryz.f35.body.isSome = true := by kernel_rfl
theorem nTb : Nat.ble [SV.x 0 []].length Tryz.f35.ntmps = true := by kernel_rfl
theorem tb_ok (l : List (List Nat)) (hl : okT l) (Q : SV → List HO → Prop) (hq : Q (.x 0 []) [.ext false (.s false 1 l.length (cT l))]) : FnOk Tryz.prog 35 [.x 0 []] [.ext false (.s false 1 l.length (cT l))] Q := by
  have h0 : FnOk Tryz.prog 35 [.x 0 []] [.ext false (.s false 1 l.length (cT l))] (fun r h' => r = .o 0 ∧ h' = [.rowc 67 1 l.length (.fn (cT l))]) := by
    refine fn_of_ok Tryz.func35 bTb ?_ ?_
    · exact nTb
    refine run_sound hm 60 ((tbS l _ _).mpr ⟨?_⟩)
    exact FOk.loop (l.length + 1) (by kernel_rfl) (FOk.cv (tb_loop l hl _ ⟨rfl, rfl⟩ l.length 0 [] (by omega) rfl) ⟨⟨rfl, rfl, rfl, fun k hk => by omega⟩, HE.refl _, trivial⟩)
  have h := FnOk.gc (r1 := .x 0 []) (h1 := [.ext false (.s false 1 l.length (cT l))]) rfl (FnOk.frz1 0 rfl h0)
  exact FnOk.mono h fun r h' hh => by rw [hh.1, hh.2]; exact hq
noncomputable def gTb : List SV → List HO → Option ((SV → List HO → Prop) → Prop)
  | [.x 0 []], [.ext false (.s false 1 n c)] => some fun Q => lT n c fun l => Q (.x 0 []) [.ext false (.s false 1 l.length (cT l))]
  | _, _ => none
theorem gTb_ok (args : List SV) (h : List HO) (tr : (SV → List HO → Prop) → Prop) (Q : SV → List HO → Prop) (hc : gTb args h = some tr) (ht : tr Q) : FnOk Tryz.prog 35 args h Q := by
  unfold gTb at hc
  split at hc
  · simp only [Option.some.injEq] at hc
    subst hc
    obtain ⟨l, rfl, he, hl, hq⟩ := ht.h
    exact FnOk.ac (tb_ok l hl Q hq) ⟨⟨rfl, rfl, rfl, rfl, he⟩, trivial⟩
  · cases hc
noncomputable def K70b : Con Tryz.prog := K70a.add 35 gTb gTb_ok
end Go.Proofs.YtlmjdcbhpffanaaGreat
/- A sheet as new memory. -/
namespace Go.Proofs.YtlmjdcbhpffanaaGreat
open Go.Sx Go.Pl
set_option linter.unusedVariables false
set_option maxRecDepth 100000
theorem csS (s : Sht) (K : List It → St → Prop) (R : SV → List HO → Prop) : W (xwp Tryz.prog X K70b [] 60 (fxOf Tryz.f20 [] []) [] [.at []] ⟨argsS 0 [.agg [.x 0 [], .x 1 [], .x 2 [], .x 3 []]], [.ext false (.s false 1 s.fx.length (cT s.fx)), .ext false (.s false 1 s.ad.length (cT s.ad)), .ext false (.s false 1 s.is.length (cT s.is)), .ext false (.s false 4 s.cp.length (cP s.cp))]⟩ K R) = W (lT s.1.length (cT s.1) fun (l : List (List Nat)) => lT s.2.length (cT s.2) fun (l_1 : List (List Nat)) => lT s.3.length (cT s.3) fun (l_2 : List (List Nat)) => (∀ M : Mem, (0 + List.length s.4) * 32 ≤ 140737488355328 ∧ 0 + List.length s.4 ≤ 140737488355328) ∧ (∀ M : Mem, 0 + 4 ≤ 4) ∧ R (.agg [.x 0 [], .x 1 [], .x 2 [], .o 3]) [.ext false (.s false 1 (List.length l) (cT l)), .ext false (.s false 1 (List.length l_1) (cT l_1)), .ext false (.s false 1 (List.length l_2) (cT l_2)), .rowc 101 4 (0 + List.length s.4) (.app 0 (.lit 4 []) (.fn (cP s.4)))]) := by kernel_rfl
theorem bCs : Tryz.f20.body.isSome = true := by kernel_rfl
theorem nCs : Nat.ble [(.agg [.x 0 [], .x 1 [], .x 2 [], .x 3 []] : SV)].length Tryz.f20.ntmps = true := by kernel_rfl
theorem cs_ok (s : Sht) (hs : s.ok) (Q : SV → List HO → Prop) (hq : Q (.agg [.x 0 [], .x 1 [], .x 2 [], .x 3 []]) [.ext false (.s false 1 s.fx.length (cT s.fx)), .ext false (.s false 1 s.ad.length (cT s.ad)), .ext false (.s false 1 s.is.length (cT s.is)), .ext false (.s false 4 s.cp.length (cP s.cp))]) : FnOk Tryz.prog 20 [.agg [.x 0 [], .x 1 [], .x 2 [], .x 3 []]] [.ext false (.s false 1 s.fx.length (cT s.fx)), .ext false (.s false 1 s.ad.length (cT s.ad)), .ext false (.s false 1 s.is.length (cT s.is)), .ext false (.s false 4 s.cp.length (cP s.cp))] Q := by
  have h0 : FnOk Tryz.prog 20 [.agg [.x 0 [], .x 1 [], .x 2 [], .x 3 []]] [.ext false (.s false 1 s.fx.length (cT s.fx)), .ext false (.s false 1 s.ad.length (cT s.ad)), .ext false (.s false 1 s.is.length (cT s.is)), .ext false (.s false 4 s.cp.length (cP s.cp))] (fun r h' => r = .agg [.x 0 [], .x 1 [], .x 2 [], .o 3] ∧ HEs h' [.ext false (.s false 1 s.fx.length (cT s.fx)), .ext false (.s false 1 s.ad.length (cT s.ad)), .ext false (.s false 1 s.is.length (cT s.is)), .rowc 101 4 s.cp.length (.fn (cP s.cp))]) := by
    refine fn_of_ok Tryz.func20 bCs ?_ ?_
    · exact nCs
    have h1 := hs.c.2
    refine run_sound hm 60 ((csS s _ _).mpr ⟨?_⟩)
    refine lT_mk hs.f (lT_mk hs.a (lT_mk hs.i (And.intro (fun _ => by omega) (And.intro (fun _ => by omega) ?_))))
    exact ⟨rfl, HE.refl _, HE.refl _, HE.refl _, ⟨rfl, rfl, Nat.zero_add _, fun k hk j hj => appC_ge _ _ _ (Nat.zero_le _)⟩, trivial⟩
  have h1 := FnOk.frz1 3 (T := 101) (sz := 4) (n := s.cp.length) (c := .fn (cP s.cp)) (by kernel_rfl) (FnOk.eqv h0)
  have h2 := FnOk.gc (r1 := .agg [.x 0 [], .x 1 [], .x 2 [], .x 3 []]) (h1 := [.ext false (.s false 1 s.fx.length (cT s.fx)), .ext false (.s false 1 s.ad.length (cT s.ad)), .ext false (.s false 1 s.is.length (cT s.is)), .ext false (.s false 4 s.cp.length (cP s.cp))]) (by kernel_rfl) h1
  exact FnOk.mono h2 fun r h' hh => by rw [hh.1, hh.2]; exact hq
noncomputable def gCs : List SV → List HO → Option ((SV → List HO → Prop) → Prop)
  | [.agg [.x 0 [], .x 1 [], .x 2 [], .x 3 []]], [.ext false (.s false 1 n0 c0), .ext false (.s false 1 n1 c1), .ext false (.s false 1 n2 c2), .ext false (.s false 4 n3 c3)] =>
    some fun Q => lS n0 n1 n2 n3 c0 c1 c2 c3 fun s => Q (.agg [.x 0 [], .x 1 [], .x 2 [], .x 3 []]) [.ext false (.s false 1 s.fx.length (cT s.fx)), .ext false (.s false 1 s.ad.length (cT s.ad)), .ext false (.s false 1 s.is.length (cT s.is)), .ext false (.s false 4 s.cp.length (cP s.cp))]
  | _, _ => none
theorem gCs_ok (args : List SV) (h : List HO) (tr : (SV → List HO → Prop) → Prop) (Q : SV → List HO → Prop) (hc : gCs args h = some tr) (ht : tr Q) : FnOk Tryz.prog 20 args h Q := by
  unfold gCs at hc
  split at hc
  · simp only [Option.some.injEq] at hc
    subst hc
    obtain ⟨s, ⟨rfl, e0⟩, ⟨rfl, e1⟩, ⟨rfl, e2⟩, ⟨rfl, e3⟩, hs, hq⟩ := ht.h
    exact FnOk.ac (cs_ok s hs Q hq) ⟨⟨rfl, rfl, rfl, rfl, e0⟩, ⟨rfl, rfl, rfl, rfl, e1⟩, ⟨rfl, rfl, rfl, rfl, e2⟩, ⟨rfl, rfl, rfl, rfl, e3⟩, trivial⟩
  · cases hc
noncomputable def K70 : Con Tryz.prog := K70b.add 20 gCs gCs_ok
end Go.Proofs.YtlmjdcbhpffanaaGreat
/- A cell's value. -/
namespace Go.Pl
open Go.Sx
def tabS (s : Sht) (kd : Int) : List (List Nat) := if kd = 2 then s.fx else if kd = 3 then s.ad else if kd = 4 then s.is else []
def atT (t : List (List Nat)) (co ro : Int) : Nat := if co < 0 ∨ ro < 0 then 0 else gE (gT t co.toNat) ro.toNat
def atS (s : Sht) (kd co ro : Int) : Nat := atT (tabS s kd) co ro
theorem gT_out {t : List (List Nat)} {k : Nat} (h : t.length ≤ k) : gT t k = [] := by rw [gT, List.getD_eq_getElem?_getD, List.getElem?_eq_none h]; rfl
theorem gE_out {t : List Nat} {k : Nat} (h : t.length ≤ k) : gE t k = 0 := by rw [gE, List.getD_eq_getElem?_getD, List.getElem?_eq_none h]; rfl
theorem atT_neg {t : List (List Nat)} {co ro : Int} (h : co < 0 ∨ ro < 0) : atT t co ro = 0 := if_pos h
theorem atT_col {t : List (List Nat)} {co ro : Int} (h : (t.length : Int) ≤ co) : atT t co ro = 0 := by
  rw [atT]; split
  · rfl
  · rw [gT_out (by omega)]; exact gE_out (Nat.zero_le _)
theorem atT_row {t : List (List Nat)} {co ro : Int} (h : ((gT t co.toNat).length : Int) ≤ ro) : atT t co ro = 0 := by
  rw [atT]; split
  · rfl
  · exact gE_out (by omega)
theorem atT_in {t : List (List Nat)} {co ro : Int} (h : ¬ co < 0) (h2 : ¬ ro < 0) : atT t co ro = gE (gT t co.toNat) ro.toNat := if_neg (by omega)
theorem okT_gT {t : List (List Nat)} (h : okT t) (k : Nat) : ∀ v ∈ gT t k, v < top := by
  by_cases hk : k < t.length
  · exact (h.1 _ (gT_mem hk)).1
  · rw [gT_out (by omega)]; intro v hv; cases hv
theorem atT_top {t : List (List Nat)} (h : okT t) (co ro : Int) : atT t co ro < top := by
  rw [atT]; split
  · simp only [top]; omega
  · exact gE_top (okT_gT h _) _
theorem tabS_ok {s : Sht} (h : s.ok) (kd : Int) : okT (tabS s kd) := by
  rw [tabS]
  split
  · exact h.f
  split
  · exact h.a
  split
  · exact h.i
  · exact ⟨fun x hx => (by cases hx), by decide⟩
theorem atS_top {s : Sht} (h : s.ok) (kd co ro : Int) : atS s kd co ro < top := atT_top (tabS_ok h kd) co ro
end Go.Pl
namespace Go.Proofs.YtlmjdcbhpffanaaGreat
open Go.Sx Go.Pl
set_option linter.unusedVariables false
set_option maxRecDepth 100000
theorem at2 (b0 b1 b2 b3 : Bool) (s : Sht) (kd co ro : Int) (K : List It → St → Prop) (R : SV → List HO → Prop) : W (xwp Tryz.prog X K70 [] 60 (fxOf Tryz.f23 [] []) [.ld (.x 0 [])] [.at []] ⟨argsS 0 [.agg [.x 0 [], .x 1 [], .x 2 [], .x 3 []], .v (.int .i64 kd), .v (.int .i64 co), .v (.int .i64 ro)], [.ext b0 (.s false 1 s.fx.length (cT s.fx)), .ext b1 (.s false 1 s.ad.length (cT s.ad)), .ext b2 (.s false 1 s.is.length (cT s.is)), .ext b3 (.s false 4 s.cp.length (cP s.cp))]⟩ K R) = W ((∀ M : Mem, (match decide ([kd] = [(2 : Int)]) with | true => some (SV.x 0 []) | false => match decide ([kd] = [(3 : Int)]) with | true => some (SV.x 1 []) | false => match decide ([kd] = [(4 : Int)]) with | true => some (SV.x 2 []) | false => none) = some (SV.x 0 [])) ∧ bif decide (co < (0 : Int)) then (∀ M : Mem, 4 ≤ 4) ∧ R (SV.agg [SV.v (vu64 0), SV.v (vu64 0), SV.v (vu64 0), SV.v (vu64 0)]) [] else bif decide ((↑s.1.length : Int) ≤ co) then (∀ M : Mem, 4 ≤ 4) ∧ R (SV.agg [SV.v (vu64 0), SV.v (vu64 0), SV.v (vu64 0), SV.v (vu64 0)]) [] else bif decide (ro < (0 : Int)) then (∀ M : Mem, 4 ≤ 4) ∧ R (SV.agg [SV.v (vu64 0), SV.v (vu64 0), SV.v (vu64 0), SV.v (vu64 0)]) [] else (∀ M : Mem, (0 : Int) ≤ co ∧ co < (↑s.1.length : Int)) ∧ (∀ M : Mem, Int.toNat co < List.length s.1) ∧ (∀ M : Mem, Int.toNat co < List.length s.1) ∧ bif decide ((↑(List.length (gT s.1 (Int.toNat co))) : Int) ≤ ro) then (∀ M : Mem, 4 ≤ 4) ∧ R (SV.agg [SV.v (vu64 0), SV.v (vu64 0), SV.v (vu64 0), SV.v (vu64 0)]) [] else (∀ M : Mem, (0 : Int) ≤ co ∧ co < (↑s.1.length : Int)) ∧ (∀ M : Mem, Int.toNat co < List.length s.1) ∧ (∀ M : Mem, Int.toNat co < List.length s.1) ∧ (∀ M : Mem, (0 : Int) ≤ ro ∧ ro < (↑(List.length (gT s.1 (Int.toNat co))) : Int)) ∧ (∀ M : Mem, Int.toNat co < List.length s.1) ∧ (∀ M : Mem, Int.toNat ro < List.length (gT s.1 (Int.toNat co))) ∧ (∀ M : Mem, 0 + 4 ≤ 4) ∧ R ((eS (gE (gT s.1 (Int.toNat co)) (Int.toNat ro)))) []) := by kernel_rfl
theorem at3 (b0 b1 b2 b3 : Bool) (s : Sht) (kd co ro : Int) (K : List It → St → Prop) (R : SV → List HO → Prop) : W (xwp Tryz.prog X K70 [] 60 (fxOf Tryz.f23 [] []) [.ld (.x 1 [])] [.at []] ⟨argsS 0 [.agg [.x 0 [], .x 1 [], .x 2 [], .x 3 []], .v (.int .i64 kd), .v (.int .i64 co), .v (.int .i64 ro)], [.ext b0 (.s false 1 s.fx.length (cT s.fx)), .ext b1 (.s false 1 s.ad.length (cT s.ad)), .ext b2 (.s false 1 s.is.length (cT s.is)), .ext b3 (.s false 4 s.cp.length (cP s.cp))]⟩ K R) = W ((∀ M : Mem, (match decide ([kd] = [(2 : Int)]) with | true => some (SV.x 0 []) | false => match decide ([kd] = [(3 : Int)]) with | true => some (SV.x 1 []) | false => match decide ([kd] = [(4 : Int)]) with | true => some (SV.x 2 []) | false => none) = some (SV.x 1 [])) ∧ bif decide (co < (0 : Int)) then (∀ M : Mem, 4 ≤ 4) ∧ R (SV.agg [SV.v (vu64 0), SV.v (vu64 0), SV.v (vu64 0), SV.v (vu64 0)]) [] else bif decide ((↑s.2.length : Int) ≤ co) then (∀ M : Mem, 4 ≤ 4) ∧ R (SV.agg [SV.v (vu64 0), SV.v (vu64 0), SV.v (vu64 0), SV.v (vu64 0)]) [] else bif decide (ro < (0 : Int)) then (∀ M : Mem, 4 ≤ 4) ∧ R (SV.agg [SV.v (vu64 0), SV.v (vu64 0), SV.v (vu64 0), SV.v (vu64 0)]) [] else (∀ M : Mem, (0 : Int) ≤ co ∧ co < (↑s.2.length : Int)) ∧ (∀ M : Mem, Int.toNat co < List.length s.2) ∧ (∀ M : Mem, Int.toNat co < List.length s.2) ∧ bif decide ((↑(List.length (gT s.2 (Int.toNat co))) : Int) ≤ ro) then (∀ M : Mem, 4 ≤ 4) ∧ R (SV.agg [SV.v (vu64 0), SV.v (vu64 0), SV.v (vu64 0), SV.v (vu64 0)]) [] else (∀ M : Mem, (0 : Int) ≤ co ∧ co < (↑s.2.length : Int)) ∧ (∀ M : Mem, Int.toNat co < List.length s.2) ∧ (∀ M : Mem, Int.toNat co < List.length s.2) ∧ (∀ M : Mem, (0 : Int) ≤ ro ∧ ro < (↑(List.length (gT s.2 (Int.toNat co))) : Int)) ∧ (∀ M : Mem, Int.toNat co < List.length s.2) ∧ (∀ M : Mem, Int.toNat ro < List.length (gT s.2 (Int.toNat co))) ∧ (∀ M : Mem, 0 + 4 ≤ 4) ∧ R ((eS (gE (gT s.2 (Int.toNat co)) (Int.toNat ro)))) []) := by kernel_rfl
theorem at4 (b0 b1 b2 b3 : Bool) (s : Sht) (kd co ro : Int) (K : List It → St → Prop) (R : SV → List HO → Prop) : W (xwp Tryz.prog X K70 [] 60 (fxOf Tryz.f23 [] []) [.ld (.x 2 [])] [.at []] ⟨argsS 0 [.agg [.x 0 [], .x 1 [], .x 2 [], .x 3 []], .v (.int .i64 kd), .v (.int .i64 co), .v (.int .i64 ro)], [.ext b0 (.s false 1 s.fx.length (cT s.fx)), .ext b1 (.s false 1 s.ad.length (cT s.ad)), .ext b2 (.s false 1 s.is.length (cT s.is)), .ext b3 (.s false 4 s.cp.length (cP s.cp))]⟩ K R) = W ((∀ M : Mem, (match decide ([kd] = [(2 : Int)]) with | true => some (SV.x 0 []) | false => match decide ([kd] = [(3 : Int)]) with | true => some (SV.x 1 []) | false => match decide ([kd] = [(4 : Int)]) with | true => some (SV.x 2 []) | false => none) = some (SV.x 2 [])) ∧ bif decide (co < (0 : Int)) then (∀ M : Mem, 4 ≤ 4) ∧ R (SV.agg [SV.v (vu64 0), SV.v (vu64 0), SV.v (vu64 0), SV.v (vu64 0)]) [] else bif decide ((↑s.3.length : Int) ≤ co) then (∀ M : Mem, 4 ≤ 4) ∧ R (SV.agg [SV.v (vu64 0), SV.v (vu64 0), SV.v (vu64 0), SV.v (vu64 0)]) [] else bif decide (ro < (0 : Int)) then (∀ M : Mem, 4 ≤ 4) ∧ R (SV.agg [SV.v (vu64 0), SV.v (vu64 0), SV.v (vu64 0), SV.v (vu64 0)]) [] else (∀ M : Mem, (0 : Int) ≤ co ∧ co < (↑s.3.length : Int)) ∧ (∀ M : Mem, Int.toNat co < List.length s.3) ∧ (∀ M : Mem, Int.toNat co < List.length s.3) ∧ bif decide ((↑(List.length (gT s.3 (Int.toNat co))) : Int) ≤ ro) then (∀ M : Mem, 4 ≤ 4) ∧ R (SV.agg [SV.v (vu64 0), SV.v (vu64 0), SV.v (vu64 0), SV.v (vu64 0)]) [] else (∀ M : Mem, (0 : Int) ≤ co ∧ co < (↑s.3.length : Int)) ∧ (∀ M : Mem, Int.toNat co < List.length s.3) ∧ (∀ M : Mem, Int.toNat co < List.length s.3) ∧ (∀ M : Mem, (0 : Int) ≤ ro ∧ ro < (↑(List.length (gT s.3 (Int.toNat co))) : Int)) ∧ (∀ M : Mem, Int.toNat co < List.length s.3) ∧ (∀ M : Mem, Int.toNat ro < List.length (gT s.3 (Int.toNat co))) ∧ (∀ M : Mem, 0 + 4 ≤ 4) ∧ R ((eS (gE (gT s.3 (Int.toNat co)) (Int.toNat ro)))) []) := by kernel_rfl
theorem at0 (b0 b1 b2 b3 : Bool) (s : Sht) (kd co ro : Int) (K : List It → St → Prop) (R : SV → List HO → Prop) : W (xwp Tryz.prog X K70 [] 60 (fxOf Tryz.f23 [] []) [.lx []] [.at []] ⟨argsS 0 [.agg [.x 0 [], .x 1 [], .x 2 [], .x 3 []], .v (.int .i64 kd), .v (.int .i64 co), .v (.int .i64 ro)], [.ext b0 (.s false 1 s.fx.length (cT s.fx)), .ext b1 (.s false 1 s.ad.length (cT s.ad)), .ext b2 (.s false 1 s.is.length (cT s.is)), .ext b3 (.s false 4 s.cp.length (cP s.cp))]⟩ K R) = W ((∀ M : Mem, mhas [[(2 : Int)], [(3 : Int)], [(4 : Int)]] [kd] = false) ∧ (∀ M : Mem, 4 ≤ 4) ∧ R (.agg [.v (vu64 0), .v (vu64 0), .v (vu64 0), .v (vu64 0)]) []) := by kernel_rfl
theorem bAt2 : Tryz.f23.body.isSome = true := by kernel_rfl
theorem nAt2 (kd co ro : Int) : Nat.ble [(.agg [.x 0 [], .x 1 [], .x 2 [], .x 3 []] : SV), .v (.int .i64 kd), .v (.int .i64 co), .v (.int .i64 ro)].length Tryz.f23.ntmps = true := by kernel_rfl
theorem at_ok (b0 b1 b2 b3 : Bool) (s : Sht) (kd co ro : Int) (Q : SV → List HO → Prop) (hq : Q (eS (atS s kd co ro)) []) : FnOk Tryz.prog 23 [.agg [.x 0 [], .x 1 [], .x 2 [], .x 3 []], .v (.int .i64 kd), .v (.int .i64 co), .v (.int .i64 ro)] [.ext b0 (.s false 1 s.fx.length (cT s.fx)), .ext b1 (.s false 1 s.ad.length (cT s.ad)), .ext b2 (.s false 1 s.is.length (cT s.is)), .ext b3 (.s false 4 s.cp.length (cP s.cp))] Q := by
  refine fn_of_ok Tryz.func23 bAt2 ?_ ?_
  · exact nAt2 kd co ro
  rw [atS] at hq
  have fin : ∀ t : List (List Nat), Q (eS (atT t co ro)) [] → (bif decide (co < (0 : Int)) then (∀ (M : Mem), 4 ≤ 4) ∧ Q (.agg [.v (vu64 0), .v (vu64 0), .v (vu64 0), .v (vu64 0)]) [] else bif decide ((t.length : Int) ≤ co) then (∀ (M : Mem), 4 ≤ 4) ∧ Q (.agg [.v (vu64 0), .v (vu64 0), .v (vu64 0), .v (vu64 0)]) [] else bif decide (ro < (0 : Int)) then (∀ (M : Mem), 4 ≤ 4) ∧ Q (.agg [.v (vu64 0), .v (vu64 0), .v (vu64 0), .v (vu64 0)]) [] else (∀ (M : Mem), (0 : Int) ≤ co ∧ co < (t.length : Int)) ∧ (∀ (M : Mem), Int.toNat co < t.length) ∧ (∀ (M : Mem), Int.toNat co < t.length) ∧ bif decide (((gT t (Int.toNat co)).length : Int) ≤ ro) then (∀ (M : Mem), 4 ≤ 4) ∧ Q (.agg [.v (vu64 0), .v (vu64 0), .v (vu64 0), .v (vu64 0)]) [] else (∀ (M : Mem), (0 : Int) ≤ co ∧ co < (t.length : Int)) ∧ (∀ (M : Mem), Int.toNat co < t.length) ∧ (∀ (M : Mem), Int.toNat co < t.length) ∧ (∀ (M : Mem), (0 : Int) ≤ ro ∧ ro < ((gT t (Int.toNat co)).length : Int)) ∧ (∀ (M : Mem), Int.toNat co < t.length) ∧ (∀ (M : Mem), Int.toNat ro < (gT t (Int.toNat co)).length) ∧ (∀ (M : Mem), 0 + 4 ≤ 4) ∧ Q (eS (gE (gT t (Int.toNat co)) (Int.toNat ro))) []) := by
    intro t hq
    simp only [cond_dec, ← eS_zero]
    refine ite_intro (fun h => ?_) (fun h => ite_intro (fun h2 => ?_) (fun h2 => ite_intro (fun h3 => ?_) (fun h3 => ?_)))
    · rw [atT_neg (.inl h)] at hq; exact ⟨fun _ => by omega, hq⟩
    · rw [atT_col h2] at hq; exact ⟨fun _ => by omega, hq⟩
    · rw [atT_neg (.inr h3)] at hq; exact ⟨fun _ => by omega, hq⟩
    refine And.intro (fun _ => by omega) (And.intro (fun _ => by omega) (And.intro (fun _ => by omega) (ite_intro (fun h4 => ?_) (fun h4 => ?_))))
    · rw [atT_row h4] at hq; exact ⟨fun _ => by omega, hq⟩
    · rw [atT_in h h3] at hq
      exact And.intro (fun _ => by omega) (And.intro (fun _ => by omega) (And.intro (fun _ => by omega) (And.intro (fun _ => by omega) (And.intro (fun _ => by omega) (And.intro (fun _ => by omega) (And.intro (fun _ => by omega) hq))))))
  by_cases h2 : kd = 2
  · subst h2
    refine run_sound hm 60 ((at2 b0 b1 b2 b3 s 2 co ro _ _).mpr ⟨And.intro (fun _ => rfl) ?_⟩)
    rw [show tabS s 2 = s.fx from rfl] at hq
    exact fin s.fx hq
  by_cases h3 : kd = 3
  · subst h3
    refine run_sound hm 60 ((at3 b0 b1 b2 b3 s 3 co ro _ _).mpr ⟨And.intro (fun _ => rfl) ?_⟩)
    rw [show tabS s 3 = s.ad from rfl] at hq
    exact fin s.ad hq
  by_cases h4 : kd = 4
  · subst h4
    refine run_sound hm 60 ((at4 b0 b1 b2 b3 s 4 co ro _ _).mpr ⟨And.intro (fun _ => rfl) ?_⟩)
    rw [show tabS s 4 = s.is from rfl] at hq
    exact fin s.is hq
  refine run_sound hm 60 ((at0 b0 b1 b2 b3 s kd co ro _ _).mpr ⟨And.intro (fun _ => by simp [mhas, h2, h3, h4]) (And.intro (fun _ => by omega) ?_)⟩)
  have e : atT [] co ro = 0 := by
    rw [atT]; split
    · rfl
    · exact gE_out (Nat.zero_le _)
  rw [tabS, if_neg h2, if_neg h3, if_neg h4, e] at hq
  rw [← eS_zero]; exact hq
noncomputable def gAt2 : List SV → List HO → Option ((SV → List HO → Prop) → Prop)
  | [.agg [.x 0 [], .x 1 [], .x 2 [], .x 3 []], .v (.int .i64 kd), .v (.int .i64 co), .v (.int .i64 ro)], [.ext _ (.s false 1 n0 c0), .ext _ (.s false 1 n1 c1), .ext _ (.s false 1 n2 c2), .ext _ (.s false 4 n3 c3)] =>
    some fun Q => lS n0 n1 n2 n3 c0 c1 c2 c3 fun s => Q (eS (atS s kd co ro)) []
  | _, _ => none
theorem gAt2_ok (args : List SV) (h : List HO) (tr : (SV → List HO → Prop) → Prop) (Q : SV → List HO → Prop) (hc : gAt2 args h = some tr) (ht : tr Q) : FnOk Tryz.prog 23 args h Q := by
  unfold gAt2 at hc
  split at hc
  · simp only [Option.some.injEq] at hc
    subst hc
    obtain ⟨s, ⟨rfl, e0⟩, ⟨rfl, e1⟩, ⟨rfl, e2⟩, ⟨rfl, e3⟩, hs, hq⟩ := ht.h
    exact FnOk.ac (at_ok _ _ _ _ s _ _ _ Q hq) ⟨⟨rfl, rfl, rfl, rfl, e0⟩, ⟨rfl, rfl, rfl, rfl, e1⟩, ⟨rfl, rfl, rfl, rfl, e2⟩, ⟨rfl, rfl, rfl, rfl, e3⟩, trivial⟩
  · cases hc
noncomputable def K71 : Con Tryz.prog := K70.add 23 gAt2 gAt2_ok
end Go.Proofs.YtlmjdcbhpffanaaGreat
/- Columns that are too long. -/
namespace Go.Pl
open Go.Sx
def uC (u : Int) : Nat → Nat → Cell := fun _ _ => .v (.int .i64 u)
structure lU (ck : Nat → Nat → Cell) (k : Int → Prop) : Prop where
  h : ∃ u : Int, IsC 1 1 ck (uC u) ∧ k u
theorem lU_mk (u : Int) {k : Int → Prop} (h : k u) : lU (lc 1 [.v (vi64 u)]) k := ⟨⟨u, fun i hi j hj => by
  have : i = 0 := by omega
  have : j = 0 := by omega
  subst i j
  rfl, h⟩⟩
def longB (u : Int) (x : List Nat) : Bool := decide (u < (x.length : Int))
theorem idxF_dropT {p : List Nat → Bool} {l : List (List Nat)} {k : Nat} (h : k < l.length) : idxF p k (l.drop k) = if p (gT l k) then (k : Int) else idxF p (k + 1) (l.drop (k + 1)) := by
  rw [List.drop_eq_getElem_cons h, idxF, gT, List.getD_eq_getElem?_getD, List.getElem?_eq_getElem h]; rfl
theorem idxF_dropP {p : Int × Int × Int × Int → Bool} {l : List (Int × Int × Int × Int)} {k : Nat} (h : k < l.length) : idxF p k (l.drop k) = if p (gP l k) then (k : Int) else idxF p (k + 1) (l.drop (k + 1)) := by
  rw [List.drop_eq_getElem_cons h, idxF, gP, List.getD_eq_getElem?_getD, List.getElem?_eq_getElem h]; rfl
end Go.Pl
namespace Go.Proofs.YtlmjdcbhpffanaaGreat
open Go.Sx Go.Pl
set_option linter.unusedVariables false
set_option maxRecDepth 100000
end Go.Proofs.YtlmjdcbhpffanaaGreat
/- Columns that are too long: the first. -/
namespace Go.Proofs.YtlmjdcbhpffanaaGreat
open Go.Sx Go.Pl
set_option linter.unusedVariables false
set_option maxRecDepth 100000
theorem ilgS (b : Bool) (l : List (List Nat)) (u : Int) (K : List It → St → Prop) (R : SV → List HO → Prop) : W (xwp Tryz.prog X K71 [(51, [])] 60 (fxOf Tryz.f83 [] [⟨[0,1,0,1],[8,7,0,1],[]⟩]) [] [.at []] ⟨argsS 0 [.x 0 [], .fn (.func 51) [] [.x 1 []]], [.ext b (.s false 1 l.length (cT l)), .ext true (.s true 1 1 (uC u))]⟩ K R) = W (K [.at [0,1,0,1], .blk 0, .at [1,1]] (St.mk [(8, .v (vi64 0)), (7, .v (vi64 (↑(List.length l) : Int))), (0, .x 0 []), (1, SV.fn (Fn.func 51) [] [.x 1 []])] [.ext b (.s false 1 (List.length l) (cT l)), .ext true (.s true 1 1 (uC u))])) := by kernel_rfl
theorem ilgR (b : Bool) (l : List (List Nat)) (u : Int) (k M : Nat) (K : List It → St → Prop) (R : SV → List HO → Prop) : W (xwp Tryz.prog X K71 [(51, [])] 60 (fxOf Tryz.f83 [] [⟨[0,1,0,1],[8,7,0,1],[]⟩]) [] (.at [0,0,1,0,1] :: .rnd [0,0,1,0,1] M :: [.blk 0, .at [1,1]]) ⟨[(8, .v (.int .i64 (k : Int))), (7, .v (.int .i64 (l.length : Int))), (0, .x 0 []), (1, .fn (.func 51) [] [.x 1 []])], [.ext b (.s false 1 l.length (cT l)), .ext true (.s true 1 1 (uC u))]⟩ K R) = W (bif decide ((↑k : Int) < (↑(List.length l) : Int)) then (∀ M : Mem, (0 : Int) ≤ (↑k : Int) ∧ (↑k : Int) < (↑(List.length l) : Int)) ∧ (∀ M : Mem, k < List.length l) ∧ (∀ M : Mem, k < List.length l) ∧ (∀ M : Mem, 0 < 1) ∧ bif decide (u < (↑(List.length (gT l k)) : Int)) then R (.v (vi64 (↑k : Int))) [] else K [.rnd [0,0,1,0,1] M, .blk 0, .at [1,1]] (St.mk [(8, .v (vi64 (IntKind.wrap .i64 ((↑k : Int) + (1 : Int))))), (7, .v (vi64 (↑(List.length l) : Int))), (0, .x 0 []), (1, SV.fn (Fn.func 51) [] [.x 1 []])] [.ext b (.s false 1 (List.length l) (cT l)), .ext true (.s true 1 1 (uC u))]) else R (.v (vi64 (-1))) []) := by kernel_rfl
theorem ilg_loop (b : Bool) (l : List (List Nat)) (u : Int) (hb : l.length ≤ 17592186043904) (Q : SV → List HO → Prop) : ∀ (d k : Nat), k + d = l.length → Q (.v (.int .i64 (idxF (longB u) k (l.drop k)))) [] →
    FOk Tryz.prog Tryz.f83 Q (.rnd [0,0,1,0,1] (d + 1) :: [.blk 0, .at [1,1]]) ⟨[(8, .v (.int .i64 (k : Int))), (7, .v (.int .i64 (l.length : Int))), (0, .x 0 []), (1, .fn (.func 51) [] [.x 1 []])], [.ext b (.s false 1 l.length (cT l)), .ext true (.s true 1 1 (uC u))]⟩
  | 0, k, hd, hq => by
    refine FOk.rnd (run_sound hm 60 ((ilgR b l u k 0 _ _).mpr ⟨?_⟩))
    rw [cond_dec, if_neg (by omega)]
    rw [show k = l.length by omega, List.drop_length] at hq
    exact hq
  | d + 1, k, hd, hq => by
    have hk : k < l.length := by omega
    refine FOk.rnd (run_sound hm 60 ((ilgR b l u k (d + 1) _ _).mpr ⟨?_⟩))
    rw [cond_dec, if_pos (by omega), wrap_inc _ (by omega)]
    rw [idxF_dropT hk, longB] at hq
    simp only [cond_dec, forall_const]
    repeat' (first | refine And.intro (by omega) ?_ | refine ite_intro (fun h => ?_) (fun h => ?_))
    · rw [decide_eq_true h] at hq; exact hq
    · rw [decide_eq_false h] at hq; exact ilg_loop b l u hb Q d (k + 1) (by omega) hq
theorem bIlg : Tryz.f83.body.isSome = true := by kernel_rfl
theorem nIlg : Nat.ble [SV.x 0 [], .fn (.func 51) [] [.x 1 []]].length Tryz.f83.ntmps = true := by kernel_rfl
theorem ilg_ok (b : Bool) (l : List (List Nat)) (u : Int) (hb : l.length ≤ 17592186043904) (Q : SV → List HO → Prop) (hq : Q (.v (.int .i64 (idxF (longB u) 0 l))) []) : FnOk Tryz.prog 83 [.x 0 [], .fn (.func 51) [] [.x 1 []]] [.ext b (.s false 1 l.length (cT l)), .ext true (.s true 1 1 (uC u))] Q := by
  refine fn_of_ok Tryz.func83 bIlg ?_ ?_
  · exact nIlg
  refine run_sound hm 60 ((ilgS b l u _ _).mpr ⟨?_⟩)
  exact FOk.loop (l.length + 1) (by kernel_rfl) (ilg_loop b l u hb Q l.length 0 (by omega) hq)
noncomputable def gIlg : List SV → List HO → Option ((SV → List HO → Prop) → Prop)
  | [.x 0 [], .fn (.func 51) [] [.x 1 []]], [.ext _ (.s false 1 n c), .ext true (.s true 1 1 ck)] => some fun Q => lT n c fun l => lU ck fun u => Q (.v (.int .i64 (idxF (longB u) 0 l))) []
  | _, _ => none
theorem gIlg_ok (args : List SV) (h : List HO) (tr : (SV → List HO → Prop) → Prop) (Q : SV → List HO → Prop) (hc : gIlg args h = some tr) (ht : tr Q) : FnOk Tryz.prog 83 args h Q := by
  unfold gIlg at hc
  split at hc
  · simp only [Option.some.injEq] at hc
    subst hc
    obtain ⟨l, rfl, he, hb, hk⟩ := ht.h
    obtain ⟨u, e1, hq⟩ := hk.h
    have := hb.2
    exact FnOk.ac (ilg_ok _ l u (by omega) Q hq) ⟨⟨rfl, rfl, rfl, rfl, he⟩, ⟨rfl, rfl, rfl, rfl, e1⟩, trivial⟩
  · cases hc
noncomputable def K72 : Con Tryz.prog := K71.add 83 gIlg gIlg_ok
end Go.Proofs.YtlmjdcbhpffanaaGreat
/- Is a cell's place wrong? With what the function has caught. -/
namespace Go.Pl
open Go.Sx
def badB (n : Nat) (u x y : Int) : Bool := decide (x < 0 ∨ (n : Int) ≤ x ∨ y < 0 ∨ u ≤ y)
def badP (n : Nat) (u : Int) (x : Int × Int × Int × Int) : Bool := badB n u x.1 x.2.1 || badB n u x.2.2.1 x.2.2.2
end Go.Pl
namespace Go.Proofs.YtlmjdcbhpffanaaGreat
open Go.Sx Go.Pl
set_option linter.unusedVariables false
set_option maxRecDepth 100000
theorem bdS (fx ad ins u : Int) (n0 n1 n2 n3 : Nat) (c0 c1 c2 c3 : Nat → Nat → Cell) (x y : Int) (K : List It → St → Prop) (R : SV → List HO → Prop) : W (xwp Tryz.prog X K72 [] 60 (fxM 6 Tryz.f54 [] []) [] [.at []] ⟨argsS 0 [.agg [.v (.int .i64 x), .v (.int .i64 y)], .p 0 0, .p 1 0], [.cells [.v (.int .i64 fx), .v (.int .i64 ad), .v (.int .i64 ins), .x 2 [], .x 3 [], .x 4 [], .x 5 []] 27, .cells [.v (.int .i64 u)] 3, .ext false (.s false 7 n0 c0), .ext false (.s false 1 n1 c1), .ext false (.s false 2 n2 c2), .ext false (.s false 2 n3 c3)]⟩ K R) = W (bif decide (x < (0 : Int)) then R (.v (.bool true)) [.cells [.v (vi64 fx), .v (vi64 ad), .v (vi64 ins), .x 2 [], .x 3 [], .x 4 [], .x 5 []] 27, .cells [.v (vi64 u)] 3, .ext false (.s false 7 n0 c0), .ext false (.s false 1 n1 c1), .ext false (.s false 2 n2 c2), .ext false (.s false 2 n3 c3)] else bif decide ((↑n3 : Int) ≤ x) then R (.v (.bool true)) [.cells [.v (vi64 fx), .v (vi64 ad), .v (vi64 ins), .x 2 [], .x 3 [], .x 4 [], .x 5 []] 27, .cells [.v (vi64 u)] 3, .ext false (.s false 7 n0 c0), .ext false (.s false 1 n1 c1), .ext false (.s false 2 n2 c2), .ext false (.s false 2 n3 c3)] else bif decide (y < (0 : Int)) then R (.v (.bool true)) [.cells [.v (vi64 fx), .v (vi64 ad), .v (vi64 ins), .x 2 [], .x 3 [], .x 4 [], .x 5 []] 27, .cells [.v (vi64 u)] 3, .ext false (.s false 7 n0 c0), .ext false (.s false 1 n1 c1), .ext false (.s false 2 n2 c2), .ext false (.s false 2 n3 c3)] else R (.v (.bool (decide (u ≤ y)))) [.cells [.v (vi64 fx), .v (vi64 ad), .v (vi64 ins), .x 2 [], .x 3 [], .x 4 [], .x 5 []] 27, .cells [.v (vi64 u)] 3, .ext false (.s false 7 n0 c0), .ext false (.s false 1 n1 c1), .ext false (.s false 2 n2 c2), .ext false (.s false 2 n3 c3)]) := by kernel_rfl
theorem bBd : Tryz.f54.body.isSome = true := by kernel_rfl
theorem nBd (x y : Int) : Nat.ble ([.agg [.v (.int .i64 x), .v (.int .i64 y)], .p 0 0, .p 1 0] : List SV).length Tryz.f54.ntmps = true := by kernel_rfl
theorem bd_ok (fx ad ins u : Int) (n0 n1 n2 n3 : Nat) (c0 c1 c2 c3 : Nat → Nat → Cell) (x y : Int) (Q : SV → List HO → Prop) (hq : Q (.v (.bool (badB n3 u x y))) [.cells [.v (.int .i64 fx), .v (.int .i64 ad), .v (.int .i64 ins), .x 2 [], .x 3 [], .x 4 [], .x 5 []] 27, .cells [.v (.int .i64 u)] 3, .ext false (.s false 7 n0 c0), .ext false (.s false 1 n1 c1), .ext false (.s false 2 n2 c2), .ext false (.s false 2 n3 c3)]) : FnOkM Tryz.prog 6 54 [.agg [.v (.int .i64 x), .v (.int .i64 y)], .p 0 0, .p 1 0] [.cells [.v (.int .i64 fx), .v (.int .i64 ad), .v (.int .i64 ins), .x 2 [], .x 3 [], .x 4 [], .x 5 []] 27, .cells [.v (.int .i64 u)] 3, .ext false (.s false 7 n0 c0), .ext false (.s false 1 n1 c1), .ext false (.s false 2 n2 c2), .ext false (.s false 2 n3 c3)] Q := by
  refine fn_of_ok Tryz.func54 bBd ?_ ?_
  · exact nBd x y
  refine run_soundM hm 60 ((bdS fx ad ins u n0 n1 n2 n3 c0 c1 c2 c3 x y _ _).mpr ⟨?_⟩)
  simp only [cond_dec]
  refine ite_intro (fun h => ?_) (fun h => ite_intro (fun h2 => ?_) (fun h2 => ite_intro (fun h3 => ?_) (fun h3 => ?_)))
  · rw [badB, decide_eq_true (.inl h)] at hq; exact hq
  · rw [badB, decide_eq_true (.inr (.inl h2))] at hq; exact hq
  · rw [badB, decide_eq_true (.inr (.inr (.inl h3)))] at hq; exact hq
  · rw [show decide (u ≤ y) = badB n3 u x y from decide_eq_decide.2 (by omega)]; exact hq
noncomputable def gBd : List SV → List HO → Option ((SV → List HO → Prop) → Prop)
  | [.agg [.v (.int .i64 x), .v (.int .i64 y)], .p 0 0, .p 1 0], [.cells [.v (.int .i64 fx), .v (.int .i64 ad), .v (.int .i64 ins), .x 2 [], .x 3 [], .x 4 [], .x 5 []] 27, .cells [.v (.int .i64 u)] 3, .ext false (.s false 7 n0 c0), .ext false (.s false 1 n1 c1), .ext false (.s false 2 n2 c2), .ext false (.s false 2 n3 c3)] => some fun Q => Q (.v (.bool (badB n3 u x y))) [.cells [.v (.int .i64 fx), .v (.int .i64 ad), .v (.int .i64 ins), .x 2 [], .x 3 [], .x 4 [], .x 5 []] 27, .cells [.v (.int .i64 u)] 3, .ext false (.s false 7 n0 c0), .ext false (.s false 1 n1 c1), .ext false (.s false 2 n2 c2), .ext false (.s false 2 n3 c3)]
  | _, _ => none
theorem gBd_ok (args : List SV) (h : List HO) (tr : (SV → List HO → Prop) → Prop) (Q : SV → List HO → Prop) (hc : gBd args h = some tr) (ht : tr Q) : FnOkM Tryz.prog h.length 54 args h Q := by
  unfold gBd at hc
  split at hc
  · simp only [Option.some.injEq] at hc
    subst hc
    exact bd_ok _ _ _ _ _ _ _ _ _ _ _ _ _ _ Q ht
  · cases hc
noncomputable def K73a : Con Tryz.prog := K72.addW 54 gBd gBd_ok
end Go.Proofs.YtlmjdcbhpffanaaGreat
/- Is a copy wrong? -/
namespace Go.Proofs.YtlmjdcbhpffanaaGreat
open Go.Sx Go.Pl
set_option linter.unusedVariables false
set_option maxRecDepth 100000
theorem bd4S (fx ad ins u : Int) (n0 n1 n2 n3 : Nat) (c0 c1 c2 c3 : Nat → Nat → Cell) (x y z t : Int) (K : List It → St → Prop) (R : SV → List HO → Prop) : W (xwp Tryz.prog X K73a [] 60 (fxM 7 Tryz.f56 [] []) [] [.at []] ⟨argsS 0 [.agg [.v (.int .i64 x), .v (.int .i64 y), .v (.int .i64 z), .v (.int .i64 t)], .p 0 0], [.cells [.fn (.func 54) [] [.p 1 0, .p 2 0]] 115, .cells [.v (.int .i64 fx), .v (.int .i64 ad), .v (.int .i64 ins), .x 3 [], .x 4 [], .x 5 [], .x 6 []] 27, .cells [.v (.int .i64 u)] 3, .ext false (.s false 7 n0 c0), .ext false (.s false 1 n1 c1), .ext false (.s false 2 n2 c2), .ext false (.s false 2 n3 c3)]⟩ K R) = W (bif badB n3 u x y then R (.v (.bool true)) [.cells [SV.fn (Fn.func 54) [] [.p 1 0, .p 2 0]] 115, .cells [.v (vi64 fx), .v (vi64 ad), .v (vi64 ins), .x 3 [], .x 4 [], .x 5 [], .x 6 []] 27, .cells [.v (vi64 u)] 3, .ext false (.s false 7 n0 c0), .ext false (.s false 1 n1 c1), .ext false (.s false 2 n2 c2), .ext false (.s false 2 n3 c3)] else R (.v (.bool (badB n3 u z t))) [.cells [SV.fn (Fn.func 54) [] [.p 1 0, .p 2 0]] 115, .cells [.v (vi64 fx), .v (vi64 ad), .v (vi64 ins), .x 3 [], .x 4 [], .x 5 [], .x 6 []] 27, .cells [.v (vi64 u)] 3, .ext false (.s false 7 n0 c0), .ext false (.s false 1 n1 c1), .ext false (.s false 2 n2 c2), .ext false (.s false 2 n3 c3)]) := by kernel_rfl
theorem bBd4 : Tryz.f56.body.isSome = true := by kernel_rfl
theorem nBd4 (x y z t : Int) : Nat.ble ([.agg [.v (.int .i64 x), .v (.int .i64 y), .v (.int .i64 z), .v (.int .i64 t)], .p 0 0] : List SV).length Tryz.f56.ntmps = true := by kernel_rfl
theorem bd4_ok (fx ad ins u : Int) (n0 n1 n2 n3 : Nat) (c0 c1 c2 c3 : Nat → Nat → Cell) (x y z t : Int) (Q : SV → List HO → Prop) (hq : Q (.v (.bool (badB n3 u x y || badB n3 u z t))) [.cells [.fn (.func 54) [] [.p 1 0, .p 2 0]] 115, .cells [.v (.int .i64 fx), .v (.int .i64 ad), .v (.int .i64 ins), .x 3 [], .x 4 [], .x 5 [], .x 6 []] 27, .cells [.v (.int .i64 u)] 3, .ext false (.s false 7 n0 c0), .ext false (.s false 1 n1 c1), .ext false (.s false 2 n2 c2), .ext false (.s false 2 n3 c3)]) : FnOkM Tryz.prog 7 56 [.agg [.v (.int .i64 x), .v (.int .i64 y), .v (.int .i64 z), .v (.int .i64 t)], .p 0 0] [.cells [.fn (.func 54) [] [.p 1 0, .p 2 0]] 115, .cells [.v (.int .i64 fx), .v (.int .i64 ad), .v (.int .i64 ins), .x 3 [], .x 4 [], .x 5 [], .x 6 []] 27, .cells [.v (.int .i64 u)] 3, .ext false (.s false 7 n0 c0), .ext false (.s false 1 n1 c1), .ext false (.s false 2 n2 c2), .ext false (.s false 2 n3 c3)] Q := by
  refine fn_of_ok Tryz.func56 bBd4 ?_ ?_
  · exact nBd4 x y z t
  refine run_soundM hm 60 ((bd4S fx ad ins u n0 n1 n2 n3 c0 c1 c2 c3 x y z t _ _).mpr ⟨?_⟩)
  refine cond_intro (fun h => ?_) (fun h => ?_)
  · rw [h] at hq; exact hq
  · rw [h] at hq; exact hq
noncomputable def gBd4 : List SV → List HO → Option ((SV → List HO → Prop) → Prop)
  | [.agg [.v (.int .i64 x), .v (.int .i64 y), .v (.int .i64 z), .v (.int .i64 t)], .p 0 0], [.cells [.fn (.func 54) [] [.p 1 0, .p 2 0]] 115, .cells [.v (.int .i64 fx), .v (.int .i64 ad), .v (.int .i64 ins), .x 3 [], .x 4 [], .x 5 [], .x 6 []] 27, .cells [.v (.int .i64 u)] 3, .ext false (.s false 7 n0 c0), .ext false (.s false 1 n1 c1), .ext false (.s false 2 n2 c2), .ext false (.s false 2 n3 c3)] => some fun Q => Q (.v (.bool (badB n3 u x y || badB n3 u z t))) [.cells [.fn (.func 54) [] [.p 1 0, .p 2 0]] 115, .cells [.v (.int .i64 fx), .v (.int .i64 ad), .v (.int .i64 ins), .x 3 [], .x 4 [], .x 5 [], .x 6 []] 27, .cells [.v (.int .i64 u)] 3, .ext false (.s false 7 n0 c0), .ext false (.s false 1 n1 c1), .ext false (.s false 2 n2 c2), .ext false (.s false 2 n3 c3)]
  | _, _ => none
theorem gBd4_ok (args : List SV) (h : List HO) (tr : (SV → List HO → Prop) → Prop) (Q : SV → List HO → Prop) (hc : gBd4 args h = some tr) (ht : tr Q) : FnOkM Tryz.prog h.length 56 args h Q := by
  unfold gBd4 at hc
  split at hc
  · simp only [Option.some.injEq] at hc
    subst hc
    exact bd4_ok _ _ _ _ _ _ _ _ _ _ _ _ _ _ _ _ Q ht
  · cases hc
noncomputable def K73b : Con Tryz.prog := K73a.addW 56 gBd4 gBd4_ok
end Go.Proofs.YtlmjdcbhpffanaaGreat
/- The first copy that is wrong. -/
namespace Go.Pl
open Go.Sx
structure lP (n : Nat) (c : Nat → Nat → Cell) (k : List (Int × Int × Int × Int) → Prop) : Prop where
  h : ∃ l : List (Int × Int × Int × Int), n = l.length ∧ IsC n 4 c (cP l) ∧ l.length ≤ 17592186043904 ∧ k l
theorem lP_mk (l : List (Int × Int × Int × Int)) (h : l.length ≤ 17592186043904) {k : List (Int × Int × Int × Int) → Prop} (hk : k l) : lP l.length (cP l) k := ⟨⟨l, rfl, IsC.refl _ _ _, h, hk⟩⟩
end Go.Pl
namespace Go.Proofs.YtlmjdcbhpffanaaGreat
open Go.Sx Go.Pl
set_option linter.unusedVariables false
set_option maxRecDepth 100000
theorem ibdS (fx ad ins u : Int) (n0 n1 n2 n3 : Nat) (c0 c1 c2 c3 : Nat → Nat → Cell) (l : List (Int × Int × Int × Int)) (K : List It → St → Prop) (R : SV → List HO → Prop) : W (xwp Tryz.prog X K73b [] 60 (fxM 8 Tryz.f84 [] [⟨[0,1,0,1],[8,7,0,1],[]⟩]) [] [.at []] ⟨argsS 0 [.x 0 [], .fn (.func 56) [] [.p 1 0]], [.ext false (.s false 4 l.length (cP l)), .cells [.fn (.func 54) [] [.p 2 0, .p 3 0]] 115, .cells [.v (.int .i64 fx), .v (.int .i64 ad), .v (.int .i64 ins), .x 4 [], .x 5 [], .x 6 [], .x 7 []] 27, .cells [.v (.int .i64 u)] 3, .ext false (.s false 7 n0 c0), .ext false (.s false 1 n1 c1), .ext false (.s false 2 n2 c2), .ext false (.s false 2 n3 c3)]⟩ K R) = W (K [.at [0,1,0,1], .blk 0, .at [1,1]] (St.mk [(8, .v (vi64 0)), (7, .v (vi64 (↑(List.length l) : Int))), (0, .x 0 []), (1, SV.fn (Fn.func 56) [] [.p 1 0])] [.ext false (.s false 4 (List.length l) (cP l)), .cells [SV.fn (Fn.func 54) [] [.p 2 0, .p 3 0]] 115, .cells [.v (vi64 fx), .v (vi64 ad), .v (vi64 ins), .x 4 [], .x 5 [], .x 6 [], .x 7 []] 27, .cells [.v (vi64 u)] 3, .ext false (.s false 7 n0 c0), .ext false (.s false 1 n1 c1), .ext false (.s false 2 n2 c2), .ext false (.s false 2 n3 c3)])) := by kernel_rfl
theorem ibdR (fx ad ins u : Int) (n0 n1 n2 n3 : Nat) (c0 c1 c2 c3 : Nat → Nat → Cell) (l : List (Int × Int × Int × Int)) (k M : Nat) (K : List It → St → Prop) (R : SV → List HO → Prop) : W (xwp Tryz.prog X K73b [] 60 (fxM 8 Tryz.f84 [] [⟨[0,1,0,1],[8,7,0,1],[]⟩]) [] (.at [0,0,1,0,1] :: .rnd [0,0,1,0,1] M :: [.blk 0, .at [1,1]]) ⟨[(8, .v (.int .i64 (k : Int))), (7, .v (.int .i64 (l.length : Int))), (0, .x 0 []), (1, .fn (.func 56) [] [.p 1 0])], [.ext false (.s false 4 l.length (cP l)), .cells [.fn (.func 54) [] [.p 2 0, .p 3 0]] 115, .cells [.v (.int .i64 fx), .v (.int .i64 ad), .v (.int .i64 ins), .x 4 [], .x 5 [], .x 6 [], .x 7 []] 27, .cells [.v (.int .i64 u)] 3, .ext false (.s false 7 n0 c0), .ext false (.s false 1 n1 c1), .ext false (.s false 2 n2 c2), .ext false (.s false 2 n3 c3)]⟩ K R) = W (bif decide ((↑k : Int) < (↑(List.length l) : Int)) then (∀ M : Mem, (0 : Int) ≤ (↑k : Int) ∧ (↑k : Int) < (↑(List.length l) : Int)) ∧ (∀ M : Mem, k < List.length l) ∧ bif badB n3 u (gP l k).1 (gP l k).2.1 || badB n3 u (gP l k).2.2.1 (gP l k).2.2.2 then R (.v (vi64 (↑k : Int))) [.ext false (.s false 4 (List.length l) (cP l)), .cells [SV.fn (Fn.func 54) [] [.p 2 0, .p 3 0]] 115, .cells [.v (vi64 fx), .v (vi64 ad), .v (vi64 ins), .x 4 [], .x 5 [], .x 6 [], .x 7 []] 27, .cells [.v (vi64 u)] 3, .ext false (.s false 7 n0 c0), .ext false (.s false 1 n1 c1), .ext false (.s false 2 n2 c2), .ext false (.s false 2 n3 c3)] else K [.rnd [0,0,1,0,1] M, .blk 0, .at [1,1]] (St.mk [(8, .v (vi64 (IntKind.wrap .i64 ((↑k : Int) + (1 : Int))))), (7, .v (vi64 (↑(List.length l) : Int))), (0, .x 0 []), (1, SV.fn (Fn.func 56) [] [.p 1 0])] [.ext false (.s false 4 (List.length l) (cP l)), .cells [SV.fn (Fn.func 54) [] [.p 2 0, .p 3 0]] 115, .cells [.v (vi64 fx), .v (vi64 ad), .v (vi64 ins), .x 4 [], .x 5 [], .x 6 [], .x 7 []] 27, .cells [.v (vi64 u)] 3, .ext false (.s false 7 n0 c0), .ext false (.s false 1 n1 c1), .ext false (.s false 2 n2 c2), .ext false (.s false 2 n3 c3)]) else R (.v (vi64 (-1))) [.ext false (.s false 4 (List.length l) (cP l)), .cells [SV.fn (Fn.func 54) [] [.p 2 0, .p 3 0]] 115, .cells [.v (vi64 fx), .v (vi64 ad), .v (vi64 ins), .x 4 [], .x 5 [], .x 6 [], .x 7 []] 27, .cells [.v (vi64 u)] 3, .ext false (.s false 7 n0 c0), .ext false (.s false 1 n1 c1), .ext false (.s false 2 n2 c2), .ext false (.s false 2 n3 c3)]) := by kernel_rfl
theorem ibd_loop (fx ad ins u : Int) (n0 n1 n2 n3 : Nat) (c0 c1 c2 c3 : Nat → Nat → Cell) (l : List (Int × Int × Int × Int)) (hl : l.length ≤ 17592186043904) (Q : SV → List HO → Prop) : ∀ (d k : Nat), k + d = l.length → Q (.v (.int .i64 (idxF (badP n3 u) k (l.drop k)))) [.ext false (.s false 4 l.length (cP l)), .cells [.fn (.func 54) [] [.p 2 0, .p 3 0]] 115, .cells [.v (.int .i64 fx), .v (.int .i64 ad), .v (.int .i64 ins), .x 4 [], .x 5 [], .x 6 [], .x 7 []] 27, .cells [.v (.int .i64 u)] 3, .ext false (.s false 7 n0 c0), .ext false (.s false 1 n1 c1), .ext false (.s false 2 n2 c2), .ext false (.s false 2 n3 c3)] →
    FOkM Tryz.prog 8 Tryz.f84 Q (.rnd [0,0,1,0,1] (d + 1) :: [.blk 0, .at [1,1]]) ⟨[(8, .v (.int .i64 (k : Int))), (7, .v (.int .i64 (l.length : Int))), (0, .x 0 []), (1, .fn (.func 56) [] [.p 1 0])], [.ext false (.s false 4 l.length (cP l)), .cells [.fn (.func 54) [] [.p 2 0, .p 3 0]] 115, .cells [.v (.int .i64 fx), .v (.int .i64 ad), .v (.int .i64 ins), .x 4 [], .x 5 [], .x 6 [], .x 7 []] 27, .cells [.v (.int .i64 u)] 3, .ext false (.s false 7 n0 c0), .ext false (.s false 1 n1 c1), .ext false (.s false 2 n2 c2), .ext false (.s false 2 n3 c3)]⟩
  | 0, k, hd, hq => by
    refine FOk.rnd (run_soundM hm 60 ((ibdR fx ad ins u n0 n1 n2 n3 c0 c1 c2 c3 l k 0 _ _).mpr ⟨?_⟩))
    rw [cond_dec, if_neg (by omega)]
    rw [show k = l.length by omega, List.drop_length] at hq
    exact hq
  | d + 1, k, hd, hq => by
    have hk : k < l.length := by omega
    refine FOk.rnd (run_soundM hm 60 ((ibdR fx ad ins u n0 n1 n2 n3 c0 c1 c2 c3 l k (d + 1) _ _).mpr ⟨?_⟩))
    rw [cond_dec, if_pos (by omega), wrap_inc _ (by omega)]
    rw [idxF_dropP hk, badP] at hq
    refine And.intro (fun _ => by omega) (And.intro (fun _ => by omega) (cond_intro (fun h => ?_) (fun h => ?_)))
    · rw [h] at hq; exact hq
    · rw [h] at hq; exact ibd_loop fx ad ins u n0 n1 n2 n3 c0 c1 c2 c3 l hl Q d (k + 1) (by omega) hq
theorem bIbd : Tryz.f84.body.isSome = true := by kernel_rfl
theorem nIbd : Nat.ble ([.x 0 [], .fn (.func 56) [] [.p 1 0]] : List SV).length Tryz.f84.ntmps = true := by kernel_rfl
theorem ibd_ok (fx ad ins u : Int) (n0 n1 n2 n3 : Nat) (c0 c1 c2 c3 : Nat → Nat → Cell) (l : List (Int × Int × Int × Int)) (hl : l.length ≤ 17592186043904) (Q : SV → List HO → Prop) (hq : Q (.v (.int .i64 (idxF (badP n3 u) 0 l))) [.ext false (.s false 4 l.length (cP l)), .cells [.fn (.func 54) [] [.p 2 0, .p 3 0]] 115, .cells [.v (.int .i64 fx), .v (.int .i64 ad), .v (.int .i64 ins), .x 4 [], .x 5 [], .x 6 [], .x 7 []] 27, .cells [.v (.int .i64 u)] 3, .ext false (.s false 7 n0 c0), .ext false (.s false 1 n1 c1), .ext false (.s false 2 n2 c2), .ext false (.s false 2 n3 c3)]) : FnOkM Tryz.prog 8 84 [.x 0 [], .fn (.func 56) [] [.p 1 0]] [.ext false (.s false 4 l.length (cP l)), .cells [.fn (.func 54) [] [.p 2 0, .p 3 0]] 115, .cells [.v (.int .i64 fx), .v (.int .i64 ad), .v (.int .i64 ins), .x 4 [], .x 5 [], .x 6 [], .x 7 []] 27, .cells [.v (.int .i64 u)] 3, .ext false (.s false 7 n0 c0), .ext false (.s false 1 n1 c1), .ext false (.s false 2 n2 c2), .ext false (.s false 2 n3 c3)] Q := by
  refine fn_of_ok Tryz.func84 bIbd ?_ ?_
  · exact nIbd
  refine run_soundM hm 60 ((ibdS fx ad ins u n0 n1 n2 n3 c0 c1 c2 c3 l _ _).mpr ⟨?_⟩)
  exact FOk.loop (l.length + 1) (by kernel_rfl) (ibd_loop fx ad ins u n0 n1 n2 n3 c0 c1 c2 c3 l hl Q l.length 0 (by omega) hq)
noncomputable def gIbd : List SV → List HO → Option ((SV → List HO → Prop) → Prop)
  | [.x 0 [], .fn (.func 56) [] [.p 1 0]], [.ext false (.s false 4 n c), .cells [.fn (.func 54) [] [.p 2 0, .p 3 0]] 115, .cells [.v (.int .i64 fx), .v (.int .i64 ad), .v (.int .i64 ins), .x 4 [], .x 5 [], .x 6 [], .x 7 []] 27, .cells [.v (.int .i64 u)] 3, .ext false (.s false 7 n0 c0), .ext false (.s false 1 n1 c1), .ext false (.s false 2 n2 c2), .ext false (.s false 2 n3 c3)] => some fun Q => lP n c fun l => Q (.v (.int .i64 (idxF (badP n3 u) 0 l))) [.ext false (.s false 4 l.length (cP l)), .cells [.fn (.func 54) [] [.p 2 0, .p 3 0]] 115, .cells [.v (.int .i64 fx), .v (.int .i64 ad), .v (.int .i64 ins), .x 4 [], .x 5 [], .x 6 [], .x 7 []] 27, .cells [.v (.int .i64 u)] 3, .ext false (.s false 7 n0 c0), .ext false (.s false 1 n1 c1), .ext false (.s false 2 n2 c2), .ext false (.s false 2 n3 c3)]
  | _, _ => none
theorem gIbd_ok (args : List SV) (h : List HO) (tr : (SV → List HO → Prop) → Prop) (Q : SV → List HO → Prop) (hc : gIbd args h = some tr) (ht : tr Q) : FnOkM Tryz.prog h.length 84 args h Q := by
  unfold gIbd at hc
  split at hc
  · simp only [Option.some.injEq] at hc
    subst hc
    obtain ⟨l, rfl, he, hl, hq⟩ := ht.h
    exact FnOk.ac (ibd_ok _ _ _ _ _ _ _ _ _ _ _ _ l hl Q hq) ⟨⟨rfl, rfl, rfl, rfl, he⟩, HE.refl _, HE.refl _, HE.refl _, HE.refl _, HE.refl _, HE.refl _, HE.refl _, trivial⟩
  · cases hc
noncomputable def K73 : Con Tryz.prog := ((K73b.addW 84 gIbd gIbd_ok).setW 55).setW 52
end Go.Proofs.YtlmjdcbhpffanaaGreat
/- Does a sheet fit? -/
namespace Go.Pl
open Go.Sx
def wrT (n u : Int) (t : List (List Nat)) : Bool := !((t.length : Int) == n) || t.any (longB u)
def wrP (n : Nat) (u : Int) (l : List (Int × Int × Int × Int)) : Bool := decide (256 < (l.length : Int)) || l.any (badP n u)
def fitV (c : Cir) (k : Int) (s : Sht) : Int := if chkC c ≠ 0 then chkC c else if k < 3 then 60 else if 5 < k then 60 else if wrT c.fx (usN k) s.fx then 130 else if wrT c.ad (usN k) s.ad then 130 else if wrT c.ins (usN k) s.is then 130 else if wrP c.eqs.length (usN k) s.cp then 130 else 0
structure lF (fx ad ins : Int) (n0 n1 n2 n3 m0 m1 m2 m3 : Nat) (c0 c1 c2 c3 d0 d1 d2 d3 : Nat → Nat → Cell) (k : Cir → Sht → Prop) : Prop where
  h : lC fx ad ins n0 n1 n2 n3 c0 c1 c2 c3 fun c => lS m0 m1 m2 m3 d0 d1 d2 d3 fun s => k c s
theorem lF_mk (c : Cir) (hc : c.ok) (s : Sht) (hs : s.ok) {k : Cir → Sht → Prop} (h : k c s) : lF c.fx c.ad c.ins c.nodes.length c.gates.length c.looks.length c.eqs.length s.fx.length s.ad.length s.is.length s.cp.length (cN c.nodes) (cI c.gates) (cL c.looks) (cK c.eqs) (cT s.fx) (cT s.ad) (cT s.is) (cP s.cp) k := ⟨lC_mk c hc (lS_mk s hs h)⟩
end Go.Pl
namespace Go.Proofs.YtlmjdcbhpffanaaGreat
open Go.Sx Go.Pl
set_option linter.unusedVariables false
set_option maxRecDepth 100000
theorem fiS (c : Cir) (s : Sht) (k : Int) (K : List It → St → Prop) (R : SV → List HO → Prop) : W (xwp Tryz.prog X K73 [(36, []), (52, []), (53, []), (55, [])] 60 (fxOf Tryz.f21 [] []) [] [.at []] ⟨argsS 0 [.agg [.v (.int .i64 c.fx), .v (.int .i64 c.ad), .v (.int .i64 c.ins), .x 0 [], .x 1 [], .x 2 [], .x 3 []], .v (.int .i64 k), .agg [.x 4 [], .x 5 [], .x 6 [], .x 7 []]], [.ext false (.s false 7 c.nodes.length (cN c.nodes)), .ext false (.s false 1 c.gates.length (cI c.gates)), .ext false (.s false 2 c.looks.length (cL c.looks)), .ext false (.s false 2 c.eqs.length (cK c.eqs)), .ext false (.s false 1 s.fx.length (cT s.fx)), .ext false (.s false 1 s.ad.length (cT s.ad)), .ext false (.s false 1 s.is.length (cT s.is)), .ext false (.s false 4 s.cp.length (cP s.cp))]⟩ K R) = W (lC c.1 c.2 c.3 c.4.length c.5.length c.6.length c.7.length (cN c.4) (cI c.5) (cL c.6) (cK c.7) fun (c_1 : Cir) => bif !chkC c_1 == (0 : Int) then R (.v (vi64 (chkC c_1))) [] else bif decide (k < (3 : Int)) then R (.v (vi64 60)) [] else bif decide ((5 : Int) < k) then R (.v (vi64 60)) [] else (∀ M : Mem, 0 + 1 ≤ 1) ∧ (∀ M : Mem, 0 + 1 ≤ 1) ∧ (∀ M : Mem, 0 + 1 ≤ 1) ∧ bif !(↑s.1.length : Int) == c.1 then R (.v (vi64 130)) [] else lT s.1.length (cT s.1) fun (l : List (List Nat)) => lU (lc 1 [.v (vi64 (usN k))]) fun (u : Int) => bif decide ((0 : Int) ≤ idxF (longB u) 0 l) then R (.v (vi64 130)) [] else bif !(↑s.2.length : Int) == c.2 then R (.v (vi64 130)) [] else lT s.2.length (cT s.2) fun (l : List (List Nat)) => lU (lc 1 [.v (vi64 (usN k))]) fun (u : Int) => bif decide ((0 : Int) ≤ idxF (longB u) 0 l) then R (.v (vi64 130)) [] else bif !(↑s.3.length : Int) == c.3 then R (.v (vi64 130)) [] else lT s.3.length (cT s.3) fun (l : List (List Nat)) => lU (lc 1 [.v (vi64 (usN k))]) fun (u : Int) => bif decide ((0 : Int) ≤ idxF (longB u) 0 l) then R (.v (vi64 130)) [] else bif decide ((256 : Int) < (↑s.4.length : Int)) then R (.v (vi64 130)) [] else lP s.4.length (cP s.4) fun (l : List (Int × Int × Int × Int)) => bif decide ((0 : Int) ≤ idxF (badP c.7.length (usN k)) 0 l) then R (.v (vi64 130)) [] else R (.v (vi64 0)) []) := by kernel_rfl
theorem bFi : Tryz.f21.body.isSome = true := by kernel_rfl
theorem nFi (c : Cir) (k : Int) : Nat.ble ([.agg [.v (.int .i64 c.fx), .v (.int .i64 c.ad), .v (.int .i64 c.ins), .x 0 [], .x 1 [], .x 2 [], .x 3 []], .v (.int .i64 k), .agg [.x 4 [], .x 5 [], .x 6 [], .x 7 []]] : List SV).length Tryz.f21.ntmps = true := by kernel_rfl
theorem fi_ok (c : Cir) (hc : c.ok) (s : Sht) (hs : s.ok) (k : Int) (Q : SV → List HO → Prop) (hq : Q (.v (.int .i64 (fitV c k s))) []) : FnOk Tryz.prog 21 [.agg [.v (.int .i64 c.fx), .v (.int .i64 c.ad), .v (.int .i64 c.ins), .x 0 [], .x 1 [], .x 2 [], .x 3 []], .v (.int .i64 k), .agg [.x 4 [], .x 5 [], .x 6 [], .x 7 []]] [.ext false (.s false 7 c.nodes.length (cN c.nodes)), .ext false (.s false 1 c.gates.length (cI c.gates)), .ext false (.s false 2 c.looks.length (cL c.looks)), .ext false (.s false 2 c.eqs.length (cK c.eqs)), .ext false (.s false 1 s.fx.length (cT s.fx)), .ext false (.s false 1 s.ad.length (cT s.ad)), .ext false (.s false 1 s.is.length (cT s.is)), .ext false (.s false 4 s.cp.length (cP s.cp))] Q := by
  refine fn_of_ok Tryz.func21 bFi ?_ ?_
  · exact nFi c k
  have hp := hs.c.2
  refine run_sound hm 60 ((fiS c s k _ _).mpr ⟨?_⟩)
  rw [fitV] at hq
  refine lC_mk c hc ?_
  rw [cond_not, cond_beq]
  refine ite_intro (fun h0 => ?_) (fun h0 => by rw [if_pos h0] at hq; exact hq)
  rw [if_neg (fun h => h h0)] at hq
  rw [cond_dec, cond_dec]
  refine ite_intro (fun h1 => by rw [if_pos h1] at hq; exact hq) (fun h1 => ite_intro (fun h2 => by rw [if_neg h1, if_pos h2] at hq; exact hq) (fun h2 => ?_))
  rw [if_neg h1, if_neg h2] at hq
  refine And.intro (fun _ => by omega) (And.intro (fun _ => by omega) (And.intro (fun _ => by omega) ?_))
  have one : ∀ (t : List (List Nat)) (n : Int) (X Y : Prop), okT t → (wrT n (usN k) t = true → X) → (wrT n (usN k) t = false → Y) → (bif !((t.length : Int) == n) then X else lT t.length (cT t) fun l => lU (lc 1 [.v (vi64 (usN k))]) fun u => bif decide ((0 : Int) ≤ idxF (longB u) 0 l) then X else Y) := by
    intro t n X Y ho hx hy
    rw [wrT] at hx hy
    refine cond_intro (fun e => hx (by rw [e]; rfl)) (fun e => lT_mk ho (lU_mk _ ?_))
    rw [e, Bool.false_or] at hx hy
    rw [idxF_any]
    exact cond_intro hx hy
  refine one _ _ _ _ hs.f (fun e => by rw [if_pos e] at hq; exact hq) (fun e => ?_)
  rw [if_neg (by rw [e]; exact Bool.false_ne_true)] at hq
  refine one _ _ _ _ hs.a (fun e => by rw [if_pos e] at hq; exact hq) (fun e => ?_)
  rw [if_neg (by rw [e]; exact Bool.false_ne_true)] at hq
  refine one _ _ _ _ hs.i (fun e => by rw [if_pos e] at hq; exact hq) (fun e => ?_)
  rw [if_neg (by rw [e]; exact Bool.false_ne_true), wrP] at hq
  refine cond_intro (fun e => ?_) (fun e => lP_mk _ (by omega) ?_)
  · rw [e] at hq; exact hq
  rw [e, Bool.false_or] at hq
  rw [idxF_any]
  refine cond_intro (fun e => ?_) (fun e => ?_)
  · rw [if_pos e] at hq; exact hq
  · rw [if_neg (by rw [e]; exact Bool.false_ne_true)] at hq; exact hq
noncomputable def gFi : List SV → List HO → Option ((SV → List HO → Prop) → Prop)
  | [.agg [.v (.int .i64 fx), .v (.int .i64 ad), .v (.int .i64 ins), .x 0 [], .x 1 [], .x 2 [], .x 3 []], .v (.int .i64 k), .agg [.x 4 [], .x 5 [], .x 6 [], .x 7 []]], [.ext false (.s false 7 n0 c0), .ext false (.s false 1 n1 c1), .ext false (.s false 2 n2 c2), .ext false (.s false 2 n3 c3), .ext false (.s false 1 m0 d0), .ext false (.s false 1 m1 d1), .ext false (.s false 1 m2 d2), .ext false (.s false 4 m3 d3)] =>
    some fun Q => lF fx ad ins n0 n1 n2 n3 m0 m1 m2 m3 c0 c1 c2 c3 d0 d1 d2 d3 fun c s => Q (.v (.int .i64 (fitV c k s))) []
  | _, _ => none
theorem gFi_ok (args : List SV) (h : List HO) (tr : (SV → List HO → Prop) → Prop) (Q : SV → List HO → Prop) (hc : gFi args h = some tr) (ht : tr Q) : FnOk Tryz.prog 21 args h Q := by
  unfold gFi at hc
  split at hc
  · simp only [Option.some.injEq] at hc
    subst hc
    obtain ⟨c, rfl, rfl, rfl, ⟨rfl, e0⟩, ⟨rfl, e1⟩, ⟨rfl, e2⟩, ⟨rfl, e3⟩, hk, ht2⟩ := ht.h.h
    obtain ⟨s, ⟨rfl, e4⟩, ⟨rfl, e5⟩, ⟨rfl, e6⟩, ⟨rfl, e7⟩, hs, hq⟩ := ht2.h
    exact FnOk.ac (fi_ok c hk s hs _ Q hq) ⟨⟨rfl, rfl, rfl, rfl, e0⟩, ⟨rfl, rfl, rfl, rfl, e1⟩, ⟨rfl, rfl, rfl, rfl, e2⟩, ⟨rfl, rfl, rfl, rfl, e3⟩, ⟨rfl, rfl, rfl, rfl, e4⟩, ⟨rfl, rfl, rfl, rfl, e5⟩, ⟨rfl, rfl, rfl, rfl, e6⟩, ⟨rfl, rfl, rfl, rfl, e7⟩, trivial⟩
  · cases hc
noncomputable def K74 : Con Tryz.prog := K73.add 21 gFi gFi_ok
end Go.Proofs.YtlmjdcbhpffanaaGreat
/- A filled circuit. -/
namespace Go.Pl
open Go.Sx
noncomputable def flCell (c : Cir) (s : Sht) (so k : Int) (qs : List (Int × Int × Int)) (j : Nat) : Cell :=
  match j with
  | 0 => .v (.int .i64 c.fx)
  | 1 => .v (.int .i64 c.ad)
  | 2 => .v (.int .i64 c.ins)
  | 3 => .s false 7 c.nodes.length (cN c.nodes)
  | 4 => .s false 1 c.gates.length (cI c.gates)
  | 5 => .s false 2 c.looks.length (cL c.looks)
  | 6 => .s false 2 c.eqs.length (cK c.eqs)
  | 7 => .s false 1 s.fx.length (cT s.fx)
  | 8 => .s false 1 s.ad.length (cT s.ad)
  | 9 => .s false 1 s.is.length (cT s.is)
  | 10 => .s false 4 s.cp.length (cP s.cp)
  | 11 => .v (.int .i64 so)
  | 12 => .v (.int .i64 k)
  | 13 => .s false 3 qs.length (cQ qs)
  | _ => .v undef
def rIx (n r t : Int) : Int := IntKind.wrap .i64 ((Int.toNat (IntKind.wrap .i64 (r + t) % (18446744073709551616 : Int)) &&& Int.toNat (IntKind.wrap .i64 (n - (1 : Int)) % (18446744073709551616 : Int)) : Nat) : Int)
def nOf (k : Int) : Int := IntKind.wrap .i64 ((1 : Int) * (2 : Int) ^ (if Int.toNat k ≤ 64 then Int.toNat k else 64))
def atQ (s : Sht) (k r : Int) (qs : List (Int × Int × Int)) : List Nat := qs.map fun q => atS s q.1 q.2.1 (rIx (nOf k) r q.2.2)
noncomputable def rowV (c : Cir) (s : Sht) (so k : Int) (qs : List (Int × Int × Int)) (r : Int) : List Nat := (vlR so qs (atQ s k r qs) c.nodes).1
structure lFk (fk : Nat → Nat → Cell) (K : Cir → Sht → Int → Int → List (Int × Int × Int) → Prop) : Prop where
  h : ∃ (c : Cir) (s : Sht) (so k : Int) (qs : List (Int × Int × Int)), IsC 1 14 fk (fun _ j => flCell c s so k qs j) ∧ c.ok ∧ s.ok ∧ 0 ≤ k ∧ qs.length ≤ 4000000000000 ∧ K c s so k qs
theorem take_gQ2 {l : List (Int × Int × Int)} {k : Nat} (h : k < l.length) : l.take (k + 1) = l.take k ++ [gQ l k] := by
  rw [List.take_add_one, List.getElem?_eq_getElem h, gQ, List.getD_eq_getElem?_getD, List.getElem?_eq_getElem h]; rfl
theorem atQ_snoc {s : Sht} {k r : Int} {qs : List (Int × Int × Int)} {i : Nat} (h : i < qs.length) : atQ s k r (qs.take (i + 1)) = atQ s k r (qs.take i) ++ [atS s (gQ qs i).1 (gQ qs i).2.1 (rIx (nOf k) r (gQ qs i).2.2)] := by
  rw [take_gQ2 h, atQ, List.map_append]; rfl
theorem atQ_top {s : Sht} (hs : s.ok) (k r : Int) (qs : List (Int × Int × Int)) : ∀ v ∈ atQ s k r qs, v < top := by
  intro v hv
  obtain ⟨q, _, rfl⟩ := List.mem_map.1 hv
  exact atS_top hs _ _ _
end Go.Pl
namespace Go.Proofs.YtlmjdcbhpffanaaGreat
open Go.Sx Go.Pl
set_option linter.unusedVariables false
set_option maxRecDepth 100000
end Go.Proofs.YtlmjdcbhpffanaaGreat
/- The value of each node in a row. -/
namespace Go.Proofs.YtlmjdcbhpffanaaGreat
open Go.Sx Go.Pl
set_option linter.unusedVariables false
set_option maxRecDepth 100000
theorem rwS (c : Cir) (s : Sht) (so k : Int) (qs : List (Int × Int × Int)) (r : Int) (K : List It → St → Prop) (R : SV → List HO → Prop) : W (xwp Tryz.prog X K74 [] 60 (fxOf Tryz.f59 [] [⟨[0,1,0,1,1,1], [21,20,19,6,5,0,1], [(6,53,4)]⟩]) [] [.at []] ⟨argsS 0 [.x 0 [], .v (.int .i64 r)], [.ext true (.s true 14 1 (fun _ j => flCell c s so k qs j))]⟩ K R) = W ((∀ M : Mem, 0 < 1) ∧ (∀ M : Mem, 0 < 1) ∧ (∀ M : Mem, 0 < 1) ∧ (∀ M : Mem, ¬k < (0 : Int)) ∧ (∀ M : Mem, 0 < 1) ∧ (∀ M : Mem, 0 < 1) ∧ (∀ M : Mem, 0 < 1) ∧ (∀ M : Mem, 0 < 1) ∧ K [.at [0,1,0,1,1,1], .blk 0, .at [1,1,1,1]] (St.mk [(21, .v (vi64 0)), (20, .v (vi64 (↑(List.length qs) : Int))), (19, .x 0 [(14, 0, 13)]), (6, .o 1), (5, .v (vi64 (IntKind.wrap .i64 ((1 : Int) * (2 : Int) ^ if Int.toNat k ≤ 64 then Int.toNat k else 64)))), (0, .x 0 []), (1, .v (vi64 r))] [.ext true (.s true 14 1 fun (x j : Nat) => flCell c s so k qs j), .rowc 53 4 0 (.lit 1 [])])) := by kernel_rfl
theorem rwR (c : Cir) (s : Sht) (so k : Int) (qs : List (Int × Int × Int)) (r : Int) (vs : List Nat) (n : Int) (m i M : Nat) (K : List It → St → Prop) (R : SV → List HO → Prop) : W (xwp Tryz.prog X K74 [] 60 (fxOf Tryz.f59 [] [⟨[0,1,0,1,1,1], [21,20,19,6,5,0,1], [(6,53,4)]⟩]) [] (.at [0,0,1,0,1,1,1] :: .rnd [0,0,1,0,1,1,1] M :: [.blk 0, .at [1,1,1,1]]) ⟨[(21, .v (.int .i64 (i : Int))), (20, .v (.int .i64 (qs.length : Int))), (19, .x 0 [(14, 0, 13)]), (6, .o 1), (5, .v (.int .i64 n)), (0, .x 0 []), (1, .v (.int .i64 r))], [.ext true (.s true 14 1 (fun _ j => flCell c s so k qs j)), .rowc 53 4 m (.fn (cE vs))]⟩ K R) = W (bif decide ((↑i : Int) < (↑(List.length qs) : Int)) then (∀ M : Mem, 0 < 1) ∧ (∀ M : Mem, (0 : Int) ≤ (↑i : Int) ∧ (↑i : Int) < (↑(List.length qs) : Int)) ∧ (∀ M : Mem, 0 < 1) ∧ (∀ M : Mem, i < List.length qs) ∧ (∀ M : Mem, 0 + 3 ≤ 3) ∧ (∀ M : Mem, 0 < 1) ∧ (∀ M : Mem, 0 < 1) ∧ (∀ M : Mem, 0 < 1) ∧ (∀ M : Mem, 0 < 1) ∧ (∀ M : Mem, 0 < 1) ∧ (∀ M : Mem, 0 < 1) ∧ (∀ M : Mem, 0 < 1) ∧ lS s.1.length s.2.length s.3.length s.4.length (cT s.1) (cT s.2) (cT s.3) (cP s.4) fun (s_1 : Sht) => (∀ M : Mem, (m + 1) * 32 ≤ 140737488355328 ∧ m + 1 ≤ 140737488355328) ∧ K [.rnd [0,0,1,0,1,1,1] M, .blk 0, .at [1,1,1,1]] (St.mk [(21, .v (vi64 (IntKind.wrap .i64 ((↑i : Int) + (1 : Int))))), (20, .v (vi64 (↑(List.length qs) : Int))), (19, .x 0 [(14, 0, 13)]), (6, .o 1), (5, .v (vi64 n)), (0, .x 0 []), (1, .v (vi64 r))] [.ext true (.s true 14 1 fun (x j : Nat) => flCell c s so k qs j), .rowc 53 4 (m + 1) (.app m (.fn (cE vs)) (.lit 4 [.v (vu64 (↑(limb (atS s_1 (gQ qs i).1 (gQ qs i).2.1 (IntKind.wrap .i64 (↑(Int.toNat (IntKind.wrap .i64 (r + (gQ qs i).2.2) % (18446744073709551616 : Int)) &&& Int.toNat (IntKind.wrap .i64 (n - (1 : Int)) % (18446744073709551616 : Int))) : Int))) 0) : Int)), .v (vu64 (↑(limb (atS s_1 (gQ qs i).1 (gQ qs i).2.1 (IntKind.wrap .i64 (↑(Int.toNat (IntKind.wrap .i64 (r + (gQ qs i).2.2) % (18446744073709551616 : Int)) &&& Int.toNat (IntKind.wrap .i64 (n - (1 : Int)) % (18446744073709551616 : Int))) : Int))) 1) : Int)), .v (vu64 (↑(limb (atS s_1 (gQ qs i).1 (gQ qs i).2.1 (IntKind.wrap .i64 (↑(Int.toNat (IntKind.wrap .i64 (r + (gQ qs i).2.2) % (18446744073709551616 : Int)) &&& Int.toNat (IntKind.wrap .i64 (n - (1 : Int)) % (18446744073709551616 : Int))) : Int))) 2) : Int)), .v (vu64 (↑(limb (atS s_1 (gQ qs i).1 (gQ qs i).2.1 (IntKind.wrap .i64 (↑(Int.toNat (IntKind.wrap .i64 (r + (gQ qs i).2.2) % (18446744073709551616 : Int)) &&& Int.toNat (IntKind.wrap .i64 (n - (1 : Int)) % (18446744073709551616 : Int))) : Int))) 3) : Int))]))]) else (∀ M : Mem, 0 < 1) ∧ (∀ M : Mem, 0 < 1) ∧ (∀ M : Mem, 0 < 1) ∧ (∀ M : Mem, 0 < 1) ∧ (∀ M : Mem, 0 < 1) ∧ (∀ M : Mem, 0 < 1) ∧ (∀ M : Mem, 0 < 1) ∧ (∀ M : Mem, 0 < 1) ∧ (∀ M : Mem, 0 < 1) ∧ (∀ M : Mem, 0 < 1) ∧ (∀ M : Mem, 0 < 1) ∧ (∀ M : Mem, 0 < 1) ∧ vlC c.4.length (List.length qs) m (cN c.4) (cQ qs) (cE vs) fun (l : List Nd) (qs : List Qy) (vs : List Nat) => R (.o 0) [.rowc 53 4 (List.length (vlR so qs vs l).1) (.fn (cE (vlR so qs vs l).1))]) := by kernel_rfl
theorem rw_loop (c : Cir) (hc : c.ok) (s : Sht) (hs : s.ok) (so k : Int) (qs : List (Int × Int × Int)) (hq4 : qs.length ≤ 4000000000000) (r : Int) (Q : SV → List HO → Prop) (hq : Q (.o 0) [.rowc 53 4 (rowV c s so k qs r).length (.fn (cE (rowV c s so k qs r)))]) : ∀ (d i : Nat) (vs : List Nat), i + d = qs.length → vs = atQ s k r (qs.take i) →
    FOk Tryz.prog Tryz.f59 Q (.rnd [0,0,1,0,1,1,1] (d + 1) :: [.blk 0, .at [1,1,1,1]]) ⟨[(21, .v (.int .i64 (i : Int))), (20, .v (.int .i64 (qs.length : Int))), (19, .x 0 [(14, 0, 13)]), (6, .o 1), (5, .v (.int .i64 (nOf k))), (0, .x 0 []), (1, .v (.int .i64 r))], [.ext true (.s true 14 1 (fun _ j => flCell c s so k qs j)), .rowc 53 4 vs.length (.fn (cE vs))]⟩
  | 0, i, vs, hd, hv => by
    have h1 := hc.n.2
    refine FOk.rnd (run_sound hm 60 ((rwR c s so k qs r vs (nOf k) vs.length i 0 _ _).mpr ⟨?_⟩))
    rw [cond_dec, if_neg (by omega)]
    rw [show i = qs.length by omega, List.take_length] at hv
    refine And.intro (fun _ => by omega) (And.intro (fun _ => by omega) (And.intro (fun _ => by omega) (And.intro (fun _ => by omega) (And.intro (fun _ => by omega) (And.intro (fun _ => by omega) (And.intro (fun _ => by omega) (And.intro (fun _ => by omega) (And.intro (fun _ => by omega) (And.intro (fun _ => by omega) (And.intro (fun _ => by omega) (And.intro (fun _ => by omega) (⟨⟨c.nodes, qs, vs, rfl, IsC.refl _ _ _, rfl, IsC.refl _ _ _, rfl, IsC.refl _ _ _, by omega, by omega, fun x hx => (hc.n.1 x hx).1, by rw [hv]; exact atQ_top hs k r qs, ?_⟩⟩))))))))))))
    rw [hv]
    exact hq
  | d + 1, i, vs, hd, hv => by
    have hi : i < qs.length := by omega
    have hlen : vs.length = i := by rw [hv, atQ, List.length_map, List.length_take]; omega
    refine FOk.rnd (run_sound hm 60 ((rwR c s so k qs r vs (nOf k) vs.length i (d + 1) _ _).mpr ⟨?_⟩))
    rw [cond_dec, if_pos (by omega), wrap_inc _ (by omega)]
    have next := rw_loop c hc s hs so k qs hq4 r Q hq d (i + 1) (vs ++ [atS s (gQ qs i).1 (gQ qs i).2.1 (rIx (nOf k) r (gQ qs i).2.2)]) (by omega) (by rw [atQ_snoc hi, hv])
    rw [List.length_append, List.length_singleton] at next
    refine And.intro (fun _ => by omega) (And.intro (fun _ => by omega) (And.intro (fun _ => by omega) (And.intro (fun _ => by omega) (And.intro (fun _ => by omega) (And.intro (fun _ => by omega) (And.intro (fun _ => by omega) (And.intro (fun _ => by omega) (And.intro (fun _ => by omega) (And.intro (fun _ => by omega) (And.intro (fun _ => by omega) (And.intro (fun _ => by omega) (lS_mk s hs (And.intro (fun _ => by omega) ?_)))))))))))))
    exact FOk.cv next ⟨HE.refl _, ⟨rfl, rfl, rfl, cE_snoc _ rfl⟩, trivial⟩
theorem bRw : Tryz.f59.body.isSome = true := by kernel_rfl
theorem nRw (r : Int) : Nat.ble [SV.x 0 [], .v (.int .i64 r)].length Tryz.f59.ntmps = true := by kernel_rfl
theorem rw_ok (c : Cir) (hc : c.ok) (s : Sht) (hs : s.ok) (so k : Int) (hk : 0 ≤ k) (qs : List (Int × Int × Int)) (hq4 : qs.length ≤ 4000000000000) (r : Int) (Q : SV → List HO → Prop) (hq : Q (.x 0 []) [.ext false (.s false 4 (rowV c s so k qs r).length (cE (rowV c s so k qs r)))]) : FnOk Tryz.prog 59 [.x 0 [], .v (.int .i64 r)] [.ext true (.s true 14 1 (fun _ j => flCell c s so k qs j))] Q := by
  have h0 : FnOk Tryz.prog 59 [.x 0 [], .v (.int .i64 r)] [.ext true (.s true 14 1 (fun _ j => flCell c s so k qs j))] (fun z h' => z = .o 0 ∧ h' = [.rowc 53 4 (rowV c s so k qs r).length (.fn (cE (rowV c s so k qs r)))]) := by
    refine fn_of_ok Tryz.func59 bRw ?_ ?_
    · exact nRw r
    refine run_sound hm 60 ((rwS c s so k qs r _ _).mpr ⟨?_⟩)
    refine And.intro (fun _ => by omega) (And.intro (fun _ => by omega) (And.intro (fun _ => by omega) (And.intro (fun _ => by omega) (And.intro (fun _ => by omega) (And.intro (fun _ => by omega) (And.intro (fun _ => by omega) (And.intro (fun _ => by omega) (?_))))))))
    exact FOk.loop (qs.length + 1) (by kernel_rfl) (FOk.cv (rw_loop c hc s hs so k qs hq4 r _ ⟨rfl, rfl⟩ qs.length 0 [] (by omega) rfl) ⟨HE.refl _, ⟨rfl, rfl, rfl, fun k hk => by simp at hk⟩, trivial⟩)
  have h := FnOk.gc (r1 := .x 0 []) (h1 := [.ext false (.s false 4 (rowV c s so k qs r).length (cE (rowV c s so k qs r)))]) rfl (FnOk.frz1 0 rfl h0)
  exact FnOk.mono h fun z h' hh => by rw [hh.1, hh.2]; exact hq
noncomputable def gRw : List SV → List HO → Option ((SV → List HO → Prop) → Prop)
  | [.x 0 [], .v (.int .i64 r)], [.ext true (.s true 14 1 fk)] => some fun Q => lFk fk fun c s so k qs => Q (.x 0 []) [.ext false (.s false 4 (rowV c s so k qs r).length (cE (rowV c s so k qs r)))]
  | _, _ => none
theorem gRw_ok (args : List SV) (h : List HO) (tr : (SV → List HO → Prop) → Prop) (Q : SV → List HO → Prop) (hc : gRw args h = some tr) (ht : tr Q) : FnOk Tryz.prog 59 args h Q := by
  unfold gRw at hc
  split at hc
  · simp only [Option.some.injEq] at hc
    subst hc
    obtain ⟨c, s, so, k, qs, e, hk, hs, h0, h4, hq⟩ := ht.h
    exact FnOk.ac (rw_ok c hk s hs so k h0 qs h4 _ Q hq) ⟨⟨rfl, rfl, rfl, rfl, e⟩, trivial⟩
  · cases hc
noncomputable def K75 : Con Tryz.prog := K74.add 59 gRw gRw_ok
end Go.Proofs.YtlmjdcbhpffanaaGreat
/- A row's values, as they are answered. -/
namespace Go.Sx
open Go.RowKit
theorem FnOk.nilTX {P : Program} {m : Nat} {f : FuncId} {args : List SV} {h : List HO} {Q : SV → List HO → Prop} (sz : Nat) (c : Nat → Nat → Cell) (k : FnOkM P m f args h fun r h' => Q r h' ∨ (∃ y, r = .tup [.v (.slice none 0 0), .v y] ∧ h' = [] ∧ Q (.tup [.x 0 [], .v y]) [.ext false (.s false sz 0 c)])) : FnOkM P m f args h Q := by
  intro F hF w0 e hm0 S hw
  refine (k F hF w0 e hm0 S hw).mono fun E w' hE => ?_
  obtain ⟨e', r, h', hq, h2, h3, h4⟩ := hE
  rcases hq with hq | ⟨y, rfl, rfl, hq⟩
  · exact ⟨e', r, h', hq, h2, h3, h4⟩
  · refine ⟨e'.setV 0 (fun _ => .slice none 0 0) (fun _ => rfl), .tup [.x 0 [], .v y], _, hq, ⟨Nat.zero_lt_one, trivial, trivial⟩, ?_, by rw [h4]; simp [den, denL, Env.setV]⟩
    exact h3.newExt hF false (.s false sz 0 c) (fun _ => .slice none 0 0) (fun _ => rfl) ⟨none, ⟨0, rfl, Nat.le_refl _⟩, .inl rfl⟩
end Go.Sx
namespace Go.Pl
open Go.Sx
theorem lFk_mk (c : Cir) (hc : c.ok) (s : Sht) (hs : s.ok) (so k : Int) (hk : 0 ≤ k) (qs : List (Int × Int × Int)) (hq4 : qs.length ≤ 4000000000000) {K : Cir → Sht → Int → Int → List (Int × Int × Int) → Prop} (h : K c s so k qs) : lFk (lc 14 [.v (vi64 c.1), .v (vi64 c.2), .v (vi64 c.3), .s false 7 (List.length c.4) (cN c.4), .s false 1 (List.length c.5) (cI c.5), .s false 2 (List.length c.6) (cL c.6), .s false 2 (List.length c.7) (cK c.7), .s false 1 (List.length s.1) (cT s.1), .s false 1 (List.length s.2) (cT s.2), .s false 1 (List.length s.3) (cT s.3), .s false 4 (List.length s.4) (cP s.4), .v (vi64 so), .v (vi64 k), .s false 3 (List.length qs) (cQ qs)]) K :=
  ⟨⟨c, s, so, k, qs, fun i hi j hj => by
    have e : i = 0 := by omega
    subst e
    match j, hj with
    | 0, _ => rfl
    | 1, _ => rfl
    | 2, _ => rfl
    | 3, _ => rfl
    | 4, _ => rfl
    | 5, _ => rfl
    | 6, _ => rfl
    | 7, _ => rfl
    | 8, _ => rfl
    | 9, _ => rfl
    | 10, _ => rfl
    | 11, _ => rfl
    | 12, _ => rfl
    | 13, _ => rfl, hc, hs, hk, hq4, h⟩⟩
noncomputable def rowR (c : Cir) (s : Sht) (so k r : Int) : List Nat × Int := if fE so ≠ 0 then ([], fE so) else if fitV c k s ≠ 0 then ([], fitV c k s) else if r < 0 then ([], 50) else if nOf k ≤ r then ([], 50) else (rowV c s so k (qsN [] c.nodes) r, 0)
theorem fitV_zero {c : Cir} {k : Int} {s : Sht} (h : fitV c k s = 0) : chkC c = 0 ∧ 3 ≤ k ∧ k ≤ 5 ∧ wrT c.fx (usN k) s.fx = false ∧ wrT c.ad (usN k) s.ad = false ∧ wrT c.ins (usN k) s.is = false ∧ wrP c.eqs.length (usN k) s.cp = false := by
  rw [fitV] at h
  by_cases h0 : chkC c = 0
  · rw [if_neg (fun hh => hh h0)] at h
    by_cases h1 : k < 3
    · rw [if_pos h1] at h; cases h
    rw [if_neg h1] at h
    by_cases h2 : 5 < k
    · rw [if_pos h2] at h; cases h
    rw [if_neg h2] at h
    refine ⟨h0, by omega, by omega, ?_⟩
    repeat' split at h
    all_goals first
      | cases h; done
      | simp_all
  · rw [if_pos h0] at h; exact absurd h h0
theorem chkC_nodes {c : Cir} (h : chkC c = 0) : c.nodes.length ≤ 64 := by
  obtain ⟨h0, _⟩ := chkC_zero h
  exact (chkN_ord h0).1
end Go.Pl
namespace Go.Proofs.YtlmjdcbhpffanaaGreat
open Go.Sx Go.Pl
set_option linter.unusedVariables false
set_option maxRecDepth 100000
theorem sroS (c : Cir) (s : Sht) (so k r : Int) (K : List It → St → Prop) (R : SV → List HO → Prop) : W (xwp Tryz.prog X K75 [(58, [])] 60 (fxOf Tryz.f28 [] []) [] [.at []] ⟨argsS 0 [.v (.int .i64 so), .agg [.v (.int .i64 c.fx), .v (.int .i64 c.ad), .v (.int .i64 c.ins), .x 0 [], .x 1 [], .x 2 [], .x 3 []], .v (.int .i64 k), .agg [.x 4 [], .x 5 [], .x 6 [], .x 7 []], .v (.int .i64 r)], [.ext false (.s false 7 c.nodes.length (cN c.nodes)), .ext false (.s false 1 c.gates.length (cI c.gates)), .ext false (.s false 2 c.looks.length (cL c.looks)), .ext false (.s false 2 c.eqs.length (cK c.eqs)), .ext false (.s false 1 s.fx.length (cT s.fx)), .ext false (.s false 1 s.ad.length (cT s.ad)), .ext false (.s false 1 s.is.length (cT s.is)), .ext false (.s false 4 s.cp.length (cP s.cp))]⟩ K R) = W ((∀ M : Mem, 0 + 4 ≤ 4) ∧ bif !fE so == (0 : Int) then bif !fE so == (0 : Int) then R (.tup [.v (Value.slice none 0 0), .v (vi64 (fE so))]) [] else bif decide (r < (0 : Int)) then R (.tup [.v (Value.slice none 0 0), .v (vi64 50)]) [] else (∀ M : Mem, ¬k < (0 : Int)) ∧ bif decide (IntKind.wrap .i64 ((1 : Int) * (2 : Int) ^ if Int.toNat k ≤ 64 then Int.toNat k else 64) ≤ r) then R (.tup [.v (Value.slice none 0 0), .v (vi64 50)]) [] else K [It.ops [0,1,1,1,1] 2, .at [1,1,1,1,1]] (St.mk [(34, .v (vi64 r)), (33, .v (Value.pointer none)), (32, .bl false), (31, .v (.bool (decide (IntKind.wrap .i64 ((1 : Int) * (2 : Int) ^ if Int.toNat k ≤ 64 then Int.toNat k else 64) ≤ r)))), (30, .v (vi64 (IntKind.wrap .i64 ((1 : Int) * (2 : Int) ^ if Int.toNat k ≤ 64 then Int.toNat k else 64)))), (29, .v (vi64 k)), (28, .v (vi64 r)), (27, .bl false), (26, .v (.bool (decide (r < (0 : Int))))), (25, .v (vi64 r)), (23, .bl false), (22, .v (vi64 (fE so))), (13, .v (vi64 (fE so))), (12, .v (Value.pointer none)), (21, .v (vi64 (fE so))), (20, .v (Value.pointer none)), (14, .tup [.v (Value.pointer none), .v (vi64 (fE so))]), (19, .tup [.v (Value.pointer none), .v (vi64 (fE so))]), (18, .agg [.x 4 [], .x 5 [], .x 6 [], .x 7 []]), (17, .v (vi64 k)), (16, .agg [.v (vi64 c.1), .v (vi64 c.2), .v (vi64 c.3), .x 0 [], .x 1 [], .x 2 [], .x 3 []]), (15, .v (vi64 so)), (11, .v (vi64 0)), (10, .v (Value.slice none 0 0)), (8, .p 9 0), (6, .p 8 0), (0, .v (vi64 so)), (1, .agg [.v (vi64 c.1), .v (vi64 c.2), .v (vi64 c.3), .x 0 [], .x 1 [], .x 2 [], .x 3 []]), (2, .v (vi64 k)), (3, .agg [.x 4 [], .x 5 [], .x 6 [], .x 7 []]), (4, .v (vi64 r))] [.ext false (.s false 7 c.4.length (cN c.4)), .ext false (.s false 1 c.5.length (cI c.5)), .ext false (.s false 2 c.6.length (cL c.6)), .ext false (.s false 2 c.7.length (cK c.7)), .ext false (.s false 1 s.1.length (cT s.1)), .ext false (.s false 1 s.2.length (cT s.2)), .ext false (.s false 1 s.3.length (cT s.3)), .ext false (.s false 4 s.4.length (cP s.4)), .cells [.v (vi64 c.1), .v (vi64 c.2), .v (vi64 c.3), .x 0 [], .x 1 [], .x 2 [], .x 3 []] 27, .cells [.x 4 [], .x 5 [], .x 6 [], .x 7 []] 42]) else lF c.1 c.2 c.3 c.4.length c.5.length c.6.length c.7.length s.1.length s.2.length s.3.length s.4.length (cN c.4) (cI c.5) (cL c.6) (cK c.7) (cT s.1) (cT s.2) (cT s.3) (cP s.4) fun (c_1 : Cir) (s_1 : Sht) => bif !fitV c_1 k s_1 == (0 : Int) then bif !fitV c_1 k s_1 == (0 : Int) then R (.tup [.v (Value.slice none 0 0), .v (vi64 (fitV c_1 k s_1))]) [] else bif decide (r < (0 : Int)) then R (.tup [.v (Value.slice none 0 0), .v (vi64 50)]) [] else (∀ M : Mem, ¬k < (0 : Int)) ∧ bif decide (IntKind.wrap .i64 ((1 : Int) * (2 : Int) ^ if Int.toNat k ≤ 64 then Int.toNat k else 64) ≤ r) then R (.tup [.v (Value.slice none 0 0), .v (vi64 50)]) [] else K [It.ops [0,1,1,1,1] 2, .at [1,1,1,1,1]] (St.mk [(34, .v (vi64 r)), (33, .v (Value.pointer none)), (32, .bl false), (31, .v (.bool (decide (IntKind.wrap .i64 ((1 : Int) * (2 : Int) ^ if Int.toNat k ≤ 64 then Int.toNat k else 64) ≤ r)))), (30, .v (vi64 (IntKind.wrap .i64 ((1 : Int) * (2 : Int) ^ if Int.toNat k ≤ 64 then Int.toNat k else 64)))), (29, .v (vi64 k)), (28, .v (vi64 r)), (27, .bl false), (26, .v (.bool (decide (r < (0 : Int))))), (25, .v (vi64 r)), (23, .bl false), (22, .v (vi64 (fitV c_1 k s_1))), (13, .v (vi64 (fitV c_1 k s_1))), (12, .v (Value.pointer none)), (21, .v (vi64 (fitV c_1 k s_1))), (20, .v (Value.pointer none)), (14, .tup [.v (Value.pointer none), .v (vi64 (fitV c_1 k s_1))]), (19, .tup [.v (Value.pointer none), .v (vi64 (fitV c_1 k s_1))]), (18, .agg [.x 4 [], .x 5 [], .x 6 [], .x 7 []]), (17, .v (vi64 k)), (16, .agg [.v (vi64 c.1), .v (vi64 c.2), .v (vi64 c.3), .x 0 [], .x 1 [], .x 2 [], .x 3 []]), (15, .v (vi64 so)), (11, .v (vi64 0)), (10, .v (Value.slice none 0 0)), (8, .p 9 0), (6, .p 8 0), (0, .v (vi64 so)), (1, .agg [.v (vi64 c.1), .v (vi64 c.2), .v (vi64 c.3), .x 0 [], .x 1 [], .x 2 [], .x 3 []]), (2, .v (vi64 k)), (3, .agg [.x 4 [], .x 5 [], .x 6 [], .x 7 []]), (4, .v (vi64 r))] [.ext false (.s false 7 c.4.length (cN c.4)), .ext false (.s false 1 c.5.length (cI c.5)), .ext false (.s false 2 c.6.length (cL c.6)), .ext false (.s false 2 c.7.length (cK c.7)), .ext false (.s false 1 s.1.length (cT s.1)), .ext false (.s false 1 s.2.length (cT s.2)), .ext false (.s false 1 s.3.length (cT s.3)), .ext false (.s false 4 s.4.length (cP s.4)), .cells [.v (vi64 c.1), .v (vi64 c.2), .v (vi64 c.3), .x 0 [], .x 1 [], .x 2 [], .x 3 []] 27, .cells [.x 4 [], .x 5 [], .x 6 [], .x 7 []] 42]) else ∃ (l : List Nd), List.length c.4 = List.length l ∧ IsC c.4.length 7 (cN c.4) (cN l) ∧ List.length l ≤ 4000000000000 ∧ bif decide (r < (0 : Int)) then R (.tup [.v (Value.slice none 0 0), .v (vi64 50)]) [] else (∀ M : Mem, ¬k < (0 : Int)) ∧ bif decide (IntKind.wrap .i64 ((1 : Int) * (2 : Int) ^ if Int.toNat k ≤ 64 then Int.toNat k else 64) ≤ r) then R (.tup [.v (Value.slice none 0 0), .v (vi64 50)]) [] else lFk (lc 14 [.v (vi64 c.1), .v (vi64 c.2), .v (vi64 c.3), .s false 7 c.4.length (cN c.4), .s false 1 c.5.length (cI c.5), .s false 2 c.6.length (cL c.6), .s false 2 c.7.length (cK c.7), .s false 1 s.1.length (cT s.1), .s false 1 s.2.length (cT s.2), .s false 1 s.3.length (cT s.3), .s false 4 s.4.length (cP s.4), .v (vi64 so), .v (vi64 k), .s false 3 (List.length (qsN [] l)) (cQ (qsN [] l))]) fun (c : Cir) (s : Sht) (so k : Int) (qs : List (Int × Int × Int)) => R (.tup [.x 0 [], .v (vi64 0)]) [.ext false (.s false 4 (List.length (rowV c s so k qs r)) (cE (rowV c s so k qs r)))]) := by kernel_rfl
theorem bSro : Tryz.f28.body.isSome = true := by kernel_rfl
theorem nSro (c : Cir) (so k r : Int) : Nat.ble ([.v (.int .i64 so), .agg [.v (.int .i64 c.fx), .v (.int .i64 c.ad), .v (.int .i64 c.ins), .x 0 [], .x 1 [], .x 2 [], .x 3 []], .v (.int .i64 k), .agg [.x 4 [], .x 5 [], .x 6 [], .x 7 []], .v (.int .i64 r)] : List SV).length Tryz.f28.ntmps = true := by kernel_rfl
theorem sro_ok (c : Cir) (hc : c.ok) (s : Sht) (hs : s.ok) (so k r : Int) (Q : SV → List HO → Prop) (hq : Q (.tup [.x 0 [], .v (.int .i64 (rowR c s so k r).2)]) [.ext false (.s false 4 (rowR c s so k r).1.length (cE (rowR c s so k r).1))]) : FnOk Tryz.prog 28 [.v (.int .i64 so), .agg [.v (.int .i64 c.fx), .v (.int .i64 c.ad), .v (.int .i64 c.ins), .x 0 [], .x 1 [], .x 2 [], .x 3 []], .v (.int .i64 k), .agg [.x 4 [], .x 5 [], .x 6 [], .x 7 []], .v (.int .i64 r)] [.ext false (.s false 7 c.nodes.length (cN c.nodes)), .ext false (.s false 1 c.gates.length (cI c.gates)), .ext false (.s false 2 c.looks.length (cL c.looks)), .ext false (.s false 2 c.eqs.length (cK c.eqs)), .ext false (.s false 1 s.fx.length (cT s.fx)), .ext false (.s false 1 s.ad.length (cT s.ad)), .ext false (.s false 1 s.is.length (cT s.is)), .ext false (.s false 4 s.cp.length (cP s.cp))] Q := by
  refine FnOk.nilTX 4 (cE []) (fn_of_ok Tryz.func28 bSro ?_ ?_)
  · exact nSro c so k r
  refine run_sound hm 60 ((sroS c s so k r _ _).mpr ⟨?_⟩)
  rw [rowR] at hq
  simp only [cond_not, cond_beq, cond_dec]
  have bad : ∀ z : Int, Q (.tup [.x 0 [], .v (.int .i64 z)]) [.ext false (.s false 4 0 (cE []))] → Q (SV.tup [.v (.slice none 0 0), .v (vi64 z)]) [] ∨ ∃ y, SV.tup [.v (.slice none 0 0), .v (vi64 z)] = SV.tup [.v (.slice none 0 0), .v y] ∧ True ∧ Q (.tup [.x 0 [], .v y]) [.ext false (.s false 4 0 (cE []))] := fun z hz => .inr ⟨_, rfl, trivial, hz⟩
  refine And.intro (fun _ => by omega) (ite_intro (fun h0 => ?_) (fun h0 => ?_))
  · rw [if_neg (fun h => h h0)] at hq
    refine lF_mk c hc s hs (ite_intro (fun h1 => ?_) (fun h1 => ?_))
    · rw [if_neg (fun h => h h1)] at hq
      obtain ⟨hk0, hk3, _⟩ := fitV_zero h1
      have hl := chkC_nodes hk0
      have hl2 := qsN_len c.nodes []
      rw [List.length_nil] at hl2
      refine ⟨c.nodes, rfl, IsC.refl _ _ _, by omega, ite_intro (fun h2 => ?_) (fun h2 => And.intro (fun _ => by omega) (ite_intro (fun h3 => ?_) (fun h3 => ?_)))⟩
      · rw [if_pos h2] at hq; exact bad _ hq
      · rw [if_neg h2, if_pos (show nOf k ≤ r from h3)] at hq; exact bad _ hq
      · rw [if_neg h2, if_neg (show ¬ nOf k ≤ r from h3)] at hq
        exact lFk_mk c hc s hs so k (by omega) (qsN [] c.nodes) (by omega) (.inl hq)
    · rw [if_neg h1]
      rw [if_pos h1] at hq
      exact bad _ hq
  · rw [if_neg h0]
    rw [if_pos h0] at hq
    exact bad _ hq
noncomputable def gSro : List SV → List HO → Option ((SV → List HO → Prop) → Prop)
  | [.v (.int .i64 so), .agg [.v (.int .i64 fx), .v (.int .i64 ad), .v (.int .i64 ins), .x 0 [], .x 1 [], .x 2 [], .x 3 []], .v (.int .i64 k), .agg [.x 4 [], .x 5 [], .x 6 [], .x 7 []], .v (.int .i64 r)], [.ext false (.s false 7 n0 c0), .ext false (.s false 1 n1 c1), .ext false (.s false 2 n2 c2), .ext false (.s false 2 n3 c3), .ext false (.s false 1 m0 d0), .ext false (.s false 1 m1 d1), .ext false (.s false 1 m2 d2), .ext false (.s false 4 m3 d3)] =>
    some fun Q => lF fx ad ins n0 n1 n2 n3 m0 m1 m2 m3 c0 c1 c2 c3 d0 d1 d2 d3 fun c s => Q (.tup [.x 0 [], .v (.int .i64 (rowR c s so k r).2)]) [.ext false (.s false 4 (rowR c s so k r).1.length (cE (rowR c s so k r).1))]
  | _, _ => none
theorem gSro_ok (args : List SV) (h : List HO) (tr : (SV → List HO → Prop) → Prop) (Q : SV → List HO → Prop) (hc : gSro args h = some tr) (ht : tr Q) : FnOk Tryz.prog 28 args h Q := by
  unfold gSro at hc
  split at hc
  · simp only [Option.some.injEq] at hc
    subst hc
    obtain ⟨c, rfl, rfl, rfl, ⟨rfl, e0⟩, ⟨rfl, e1⟩, ⟨rfl, e2⟩, ⟨rfl, e3⟩, hk, ht2⟩ := ht.h.h
    obtain ⟨s, ⟨rfl, e4⟩, ⟨rfl, e5⟩, ⟨rfl, e6⟩, ⟨rfl, e7⟩, hs, hq⟩ := ht2.h
    exact FnOk.ac (sro_ok c hk s hs _ _ _ Q hq) ⟨⟨rfl, rfl, rfl, rfl, e0⟩, ⟨rfl, rfl, rfl, rfl, e1⟩, ⟨rfl, rfl, rfl, rfl, e2⟩, ⟨rfl, rfl, rfl, rfl, e3⟩, ⟨rfl, rfl, rfl, rfl, e4⟩, ⟨rfl, rfl, rfl, rfl, e5⟩, ⟨rfl, rfl, rfl, rfl, e6⟩, ⟨rfl, rfl, rfl, rfl, e7⟩, trivial⟩
  · cases hc
noncomputable def K76 : Con Tryz.prog := K75.add 28 gSro gSro_ok
end Go.Proofs.YtlmjdcbhpffanaaGreat
/- What a lookup asks for. -/
namespace Go.Pl
open Go.Sx
def tkN (l : List Nat) (ns : List Int) (j : Nat) : Nat := if j < ns.length then gE l (gI ns j).toNat else 0
structure lTk (nl nn : Nat) (cl cn : Nat → Nat → Cell) (k : List Nat → List Int → Prop) : Prop where
  h : ∃ (l : List Nat) (ns : List Int), nl = l.length ∧ IsC nl 4 cl (cE l) ∧ nn = ns.length ∧ IsC nn 1 cn (cI ns) ∧ ns.length ≤ 4 ∧ (∀ g ∈ ns, 0 ≤ g ∧ g < (l.length : Int)) ∧ k l ns
theorem lTk_mk (l : List Nat) (ns : List Int) (h4 : ns.length ≤ 4) (hg : ∀ g ∈ ns, 0 ≤ g ∧ g < (l.length : Int)) {k : List Nat → List Int → Prop} (h : k l ns) : lTk l.length ns.length (cE l) (cI ns) k := ⟨⟨l, ns, rfl, IsC.refl _ _ _, rfl, IsC.refl _ _ _, h4, hg, h⟩⟩
end Go.Pl
namespace Go.Proofs.YtlmjdcbhpffanaaGreat
open Go.Sx Go.Pl
set_option linter.unusedVariables false
set_option maxRecDepth 100000
theorem pkS (b0 b1 : Bool) (l : List Nat) (ns : List Int) (K : List It → St → Prop) (R : SV → List HO → Prop) : W (xwp Tryz.prog X K76 [] 60 (fxOf Tryz.f89 [([0,1,0,1,1], 5)] []) [] [.at []] ⟨argsS 0 [.x 0 [], .x 1 []], [.ext b0 (.s false 4 l.length (cE l)), .ext b1 (.s false 1 ns.length (cI ns))]⟩ K R) = W (bif decide ((0 : Int) < (↑(List.length ns) : Int)) then (∀ M : Mem, (0 : Int) ≤ (0 : Int) ∧ (0 : Int) < (↑(List.length ns) : Int)) ∧ (∀ M : Mem, 0 < List.length ns) ∧ (∀ M : Mem, (0 : Int) ≤ gI ns 0 ∧ gI ns 0 < (↑(List.length l) : Int)) ∧ (∀ M : Mem, Int.toNat (gI ns 0) < List.length l) ∧ (∀ M : Mem, (0 : Int) ≤ (0 : Int) ∧ (0 : Int) < (4 : Int)) ∧ (∀ M : Mem, 0 + 4 ≤ 16) ∧ bif decide ((1 : Int) < (↑(List.length ns) : Int)) then (∀ M : Mem, (0 : Int) ≤ (1 : Int) ∧ (1 : Int) < (↑(List.length ns) : Int)) ∧ (∀ M : Mem, 1 < List.length ns) ∧ (∀ M : Mem, (0 : Int) ≤ gI ns 1 ∧ gI ns 1 < (↑(List.length l) : Int)) ∧ (∀ M : Mem, Int.toNat (gI ns 1) < List.length l) ∧ (∀ M : Mem, (0 : Int) ≤ (1 : Int) ∧ (1 : Int) < (4 : Int)) ∧ (∀ M : Mem, 4 + 4 ≤ 16) ∧ bif decide ((2 : Int) < (↑(List.length ns) : Int)) then (∀ M : Mem, (0 : Int) ≤ (2 : Int) ∧ (2 : Int) < (↑(List.length ns) : Int)) ∧ (∀ M : Mem, 2 < List.length ns) ∧ (∀ M : Mem, (0 : Int) ≤ gI ns 2 ∧ gI ns 2 < (↑(List.length l) : Int)) ∧ (∀ M : Mem, Int.toNat (gI ns 2) < List.length l) ∧ (∀ M : Mem, (0 : Int) ≤ (2 : Int) ∧ (2 : Int) < (4 : Int)) ∧ (∀ M : Mem, 8 + 4 ≤ 16) ∧ bif decide ((3 : Int) < (↑(List.length ns) : Int)) then (∀ M : Mem, (0 : Int) ≤ (3 : Int) ∧ (3 : Int) < (↑(List.length ns) : Int)) ∧ (∀ M : Mem, 3 < List.length ns) ∧ (∀ M : Mem, (0 : Int) ≤ gI ns 3 ∧ gI ns 3 < (↑(List.length l) : Int)) ∧ (∀ M : Mem, Int.toNat (gI ns 3) < List.length l) ∧ (∀ M : Mem, (0 : Int) ≤ (3 : Int) ∧ (3 : Int) < (4 : Int)) ∧ (∀ M : Mem, 12 + 4 ≤ 16) ∧ bif decide ((4 : Int) < (↑(List.length ns) : Int)) then (∀ M : Mem, (0 : Int) ≤ (4 : Int) ∧ (4 : Int) < (↑(List.length ns) : Int)) ∧ (∀ M : Mem, 4 < List.length ns) ∧ (∀ M : Mem, (0 : Int) ≤ gI ns 4 ∧ gI ns 4 < (↑(List.length l) : Int)) ∧ (∀ M : Mem, Int.toNat (gI ns 4) < List.length l) ∧ (∀ M : Mem, (0 : Int) ≤ (4 : Int) ∧ (4 : Int) < (4 : Int)) ∧ (∀ M : Mem, 16 + 4 ≤ 16) ∧ False else (∀ M : Mem, 0 + 16 ≤ 16) ∧ R (.agg [.v (vu64 (↑(limb (gE l (Int.toNat (gI ns 0))) 0) : Int)), .v (vu64 (↑(limb (gE l (Int.toNat (gI ns 0))) 1) : Int)), .v (vu64 (↑(limb (gE l (Int.toNat (gI ns 0))) 2) : Int)), .v (vu64 (↑(limb (gE l (Int.toNat (gI ns 0))) 3) : Int)), .v (vu64 (↑(limb (gE l (Int.toNat (gI ns 1))) 0) : Int)), .v (vu64 (↑(limb (gE l (Int.toNat (gI ns 1))) 1) : Int)), .v (vu64 (↑(limb (gE l (Int.toNat (gI ns 1))) 2) : Int)), .v (vu64 (↑(limb (gE l (Int.toNat (gI ns 1))) 3) : Int)), .v (vu64 (↑(limb (gE l (Int.toNat (gI ns 2))) 0) : Int)), .v (vu64 (↑(limb (gE l (Int.toNat (gI ns 2))) 1) : Int)), .v (vu64 (↑(limb (gE l (Int.toNat (gI ns 2))) 2) : Int)), .v (vu64 (↑(limb (gE l (Int.toNat (gI ns 2))) 3) : Int)), .v (vu64 (↑(limb (gE l (Int.toNat (gI ns 3))) 0) : Int)), .v (vu64 (↑(limb (gE l (Int.toNat (gI ns 3))) 1) : Int)), .v (vu64 (↑(limb (gE l (Int.toNat (gI ns 3))) 2) : Int)), .v (vu64 (↑(limb (gE l (Int.toNat (gI ns 3))) 3) : Int))]) [] else (∀ M : Mem, 0 + 16 ≤ 16) ∧ R (.agg [.v (vu64 (↑(limb (gE l (Int.toNat (gI ns 0))) 0) : Int)), .v (vu64 (↑(limb (gE l (Int.toNat (gI ns 0))) 1) : Int)), .v (vu64 (↑(limb (gE l (Int.toNat (gI ns 0))) 2) : Int)), .v (vu64 (↑(limb (gE l (Int.toNat (gI ns 0))) 3) : Int)), .v (vu64 (↑(limb (gE l (Int.toNat (gI ns 1))) 0) : Int)), .v (vu64 (↑(limb (gE l (Int.toNat (gI ns 1))) 1) : Int)), .v (vu64 (↑(limb (gE l (Int.toNat (gI ns 1))) 2) : Int)), .v (vu64 (↑(limb (gE l (Int.toNat (gI ns 1))) 3) : Int)), .v (vu64 (↑(limb (gE l (Int.toNat (gI ns 2))) 0) : Int)), .v (vu64 (↑(limb (gE l (Int.toNat (gI ns 2))) 1) : Int)), .v (vu64 (↑(limb (gE l (Int.toNat (gI ns 2))) 2) : Int)), .v (vu64 (↑(limb (gE l (Int.toNat (gI ns 2))) 3) : Int)), .v (vu64 0), .v (vu64 0), .v (vu64 0), .v (vu64 0)]) [] else (∀ M : Mem, 0 + 16 ≤ 16) ∧ R (.agg [.v (vu64 (↑(limb (gE l (Int.toNat (gI ns 0))) 0) : Int)), .v (vu64 (↑(limb (gE l (Int.toNat (gI ns 0))) 1) : Int)), .v (vu64 (↑(limb (gE l (Int.toNat (gI ns 0))) 2) : Int)), .v (vu64 (↑(limb (gE l (Int.toNat (gI ns 0))) 3) : Int)), .v (vu64 (↑(limb (gE l (Int.toNat (gI ns 1))) 0) : Int)), .v (vu64 (↑(limb (gE l (Int.toNat (gI ns 1))) 1) : Int)), .v (vu64 (↑(limb (gE l (Int.toNat (gI ns 1))) 2) : Int)), .v (vu64 (↑(limb (gE l (Int.toNat (gI ns 1))) 3) : Int)), .v (vu64 0), .v (vu64 0), .v (vu64 0), .v (vu64 0), .v (vu64 0), .v (vu64 0), .v (vu64 0), .v (vu64 0)]) [] else (∀ M : Mem, 0 + 16 ≤ 16) ∧ R (.agg [.v (vu64 (↑(limb (gE l (Int.toNat (gI ns 0))) 0) : Int)), .v (vu64 (↑(limb (gE l (Int.toNat (gI ns 0))) 1) : Int)), .v (vu64 (↑(limb (gE l (Int.toNat (gI ns 0))) 2) : Int)), .v (vu64 (↑(limb (gE l (Int.toNat (gI ns 0))) 3) : Int)), .v (vu64 0), .v (vu64 0), .v (vu64 0), .v (vu64 0), .v (vu64 0), .v (vu64 0), .v (vu64 0), .v (vu64 0), .v (vu64 0), .v (vu64 0), .v (vu64 0), .v (vu64 0)]) [] else (∀ M : Mem, 16 ≤ 16) ∧ R (.agg [.v (vu64 0), .v (vu64 0), .v (vu64 0), .v (vu64 0), .v (vu64 0), .v (vu64 0), .v (vu64 0), .v (vu64 0), .v (vu64 0), .v (vu64 0), .v (vu64 0), .v (vu64 0), .v (vu64 0), .v (vu64 0), .v (vu64 0), .v (vu64 0)]) []) := by kernel_rfl
theorem bPk : Tryz.f89.body.isSome = true := by kernel_rfl
theorem nPk : Nat.ble [SV.x 0 [], .x 1 []].length Tryz.f89.ntmps = true := by kernel_rfl
theorem pk_ok (b0 b1 : Bool) (l : List Nat) (ns : List Int) (h4 : ns.length ≤ 4) (hg : ∀ g ∈ ns, 0 ≤ g ∧ g < (l.length : Int)) (Q : SV → List HO → Prop) (hq : Q (.agg [.v (.int .u64 (limb (tkN l ns 0) 0 : Nat)), .v (.int .u64 (limb (tkN l ns 0) 1 : Nat)), .v (.int .u64 (limb (tkN l ns 0) 2 : Nat)), .v (.int .u64 (limb (tkN l ns 0) 3 : Nat)), .v (.int .u64 (limb (tkN l ns 1) 0 : Nat)), .v (.int .u64 (limb (tkN l ns 1) 1 : Nat)), .v (.int .u64 (limb (tkN l ns 1) 2 : Nat)), .v (.int .u64 (limb (tkN l ns 1) 3 : Nat)), .v (.int .u64 (limb (tkN l ns 2) 0 : Nat)), .v (.int .u64 (limb (tkN l ns 2) 1 : Nat)), .v (.int .u64 (limb (tkN l ns 2) 2 : Nat)), .v (.int .u64 (limb (tkN l ns 2) 3 : Nat)), .v (.int .u64 (limb (tkN l ns 3) 0 : Nat)), .v (.int .u64 (limb (tkN l ns 3) 1 : Nat)), .v (.int .u64 (limb (tkN l ns 3) 2 : Nat)), .v (.int .u64 (limb (tkN l ns 3) 3 : Nat))]) []) : FnOk Tryz.prog 89 [.x 0 [], .x 1 []] [.ext b0 (.s false 4 l.length (cE l)), .ext b1 (.s false 1 ns.length (cI ns))] Q := by
  refine fn_of_ok Tryz.func89 bPk ?_ ?_
  · exact nPk
  refine run_sound hm 60 ((pkS b0 b1 l ns _ _).mpr ⟨?_⟩)
  have g : ∀ j, j < ns.length → 0 ≤ gI ns j ∧ gI ns j < (l.length : Int) := fun j hj => hg _ (gI_mem hj)
  simp only [cond_dec]
  refine ite_intro (fun h0 => ?_) (fun h0 => ?_)
  · have g0 := g 0 (by omega)
    refine And.intro (fun _ => by omega) (And.intro (fun _ => by omega) (And.intro (fun _ => by omega) (And.intro (fun _ => by omega) (And.intro (fun _ => by omega) (And.intro (fun _ => by omega) (ite_intro (fun h1 => ?_) (fun h1 => ?_)))))))
    · have g1 := g 1 (by omega)
      refine And.intro (fun _ => by omega) (And.intro (fun _ => by omega) (And.intro (fun _ => by omega) (And.intro (fun _ => by omega) (And.intro (fun _ => by omega) (And.intro (fun _ => by omega) (ite_intro (fun h2 => ?_) (fun h2 => ?_)))))))
      · have g2 := g 2 (by omega)
        refine And.intro (fun _ => by omega) (And.intro (fun _ => by omega) (And.intro (fun _ => by omega) (And.intro (fun _ => by omega) (And.intro (fun _ => by omega) (And.intro (fun _ => by omega) (ite_intro (fun h3 => ?_) (fun h3 => ?_)))))))
        · have g3 := g 3 (by omega)
          refine And.intro (fun _ => by omega) (And.intro (fun _ => by omega) (And.intro (fun _ => by omega) (And.intro (fun _ => by omega) (And.intro (fun _ => by omega) (And.intro (fun _ => by omega) (ite_intro (fun h5 => absurd h5 (by omega)) (fun h5 => ?_)))))))
          rw [show tkN l ns 0 = gE l (gI ns 0).toNat from if_pos (by omega)] at hq
          rw [show tkN l ns 1 = gE l (gI ns 1).toNat from if_pos (by omega)] at hq
          rw [show tkN l ns 2 = gE l (gI ns 2).toNat from if_pos (by omega)] at hq
          rw [show tkN l ns 3 = gE l (gI ns 3).toNat from if_pos (by omega)] at hq
          exact And.intro (fun _ => by omega) hq
        · skip
          rw [show tkN l ns 0 = gE l (gI ns 0).toNat from if_pos (by omega)] at hq
          rw [show tkN l ns 1 = gE l (gI ns 1).toNat from if_pos (by omega)] at hq
          rw [show tkN l ns 2 = gE l (gI ns 2).toNat from if_pos (by omega)] at hq
          rw [show tkN l ns 3 = 0 from if_neg (by omega)] at hq
          simp only [limb_zero] at hq
          exact And.intro (fun _ => by omega) hq
      · skip
        rw [show tkN l ns 0 = gE l (gI ns 0).toNat from if_pos (by omega)] at hq
        rw [show tkN l ns 1 = gE l (gI ns 1).toNat from if_pos (by omega)] at hq
        rw [show tkN l ns 2 = 0 from if_neg (by omega)] at hq
        rw [show tkN l ns 3 = 0 from if_neg (by omega)] at hq
        simp only [limb_zero] at hq
        exact And.intro (fun _ => by omega) hq
    · skip
      rw [show tkN l ns 0 = gE l (gI ns 0).toNat from if_pos (by omega)] at hq
      rw [show tkN l ns 1 = 0 from if_neg (by omega)] at hq
      rw [show tkN l ns 2 = 0 from if_neg (by omega)] at hq
      rw [show tkN l ns 3 = 0 from if_neg (by omega)] at hq
      simp only [limb_zero] at hq
      exact And.intro (fun _ => by omega) hq
  · skip
    rw [show tkN l ns 0 = 0 from if_neg (by omega)] at hq
    rw [show tkN l ns 1 = 0 from if_neg (by omega)] at hq
    rw [show tkN l ns 2 = 0 from if_neg (by omega)] at hq
    rw [show tkN l ns 3 = 0 from if_neg (by omega)] at hq
    simp only [limb_zero] at hq
    exact And.intro (fun _ => by omega) hq
noncomputable def gPk : List SV → List HO → Option ((SV → List HO → Prop) → Prop)
  | [.x 0 [], .x 1 []], [.ext _ (.s false 4 nl cl), .ext _ (.s false 1 nn cn)] => some fun Q => lTk nl nn cl cn fun l ns => Q (.agg [.v (.int .u64 (limb (tkN l ns 0) 0 : Nat)), .v (.int .u64 (limb (tkN l ns 0) 1 : Nat)), .v (.int .u64 (limb (tkN l ns 0) 2 : Nat)), .v (.int .u64 (limb (tkN l ns 0) 3 : Nat)), .v (.int .u64 (limb (tkN l ns 1) 0 : Nat)), .v (.int .u64 (limb (tkN l ns 1) 1 : Nat)), .v (.int .u64 (limb (tkN l ns 1) 2 : Nat)), .v (.int .u64 (limb (tkN l ns 1) 3 : Nat)), .v (.int .u64 (limb (tkN l ns 2) 0 : Nat)), .v (.int .u64 (limb (tkN l ns 2) 1 : Nat)), .v (.int .u64 (limb (tkN l ns 2) 2 : Nat)), .v (.int .u64 (limb (tkN l ns 2) 3 : Nat)), .v (.int .u64 (limb (tkN l ns 3) 0 : Nat)), .v (.int .u64 (limb (tkN l ns 3) 1 : Nat)), .v (.int .u64 (limb (tkN l ns 3) 2 : Nat)), .v (.int .u64 (limb (tkN l ns 3) 3 : Nat))]) []
  | _, _ => none
theorem gPk_ok (args : List SV) (h : List HO) (tr : (SV → List HO → Prop) → Prop) (Q : SV → List HO → Prop) (hc : gPk args h = some tr) (ht : tr Q) : FnOk Tryz.prog 89 args h Q := by
  unfold gPk at hc
  split at hc
  · simp only [Option.some.injEq] at hc
    subst hc
    obtain ⟨l, ns, rfl, e0, rfl, e1, h4, hg, hq⟩ := ht.h
    exact FnOk.ac (pk_ok _ _ l ns h4 hg Q hq) ⟨⟨rfl, rfl, rfl, rfl, e0⟩, ⟨rfl, rfl, rfl, rfl, e1⟩, trivial⟩
  · cases hc
noncomputable def K77 : Con Tryz.prog := K76.add 89 gPk gPk_ok
end Go.Proofs.YtlmjdcbhpffanaaGreat
/- The rows at which a lookup isn't met. -/
namespace Go.Pl
open Go.Sx
noncomputable def tK (l : List Nat) (ns : List Int) : List Int := [(limb (tkN l ns 0) 0 : Int), (limb (tkN l ns 0) 1 : Int), (limb (tkN l ns 0) 2 : Int), (limb (tkN l ns 0) 3 : Int), (limb (tkN l ns 1) 0 : Int), (limb (tkN l ns 1) 1 : Int), (limb (tkN l ns 1) 2 : Int), (limb (tkN l ns 1) 3 : Int), (limb (tkN l ns 2) 0 : Int), (limb (tkN l ns 2) 1 : Int), (limb (tkN l ns 2) 2 : Int), (limb (tkN l ns 2) 3 : Int), (limb (tkN l ns 3) 0 : Int), (limb (tkN l ns 3) 1 : Int), (limb (tkN l ns 3) 2 : Int), (limb (tkN l ns 3) 3 : Int)]
noncomputable def keysT (rows : List (List Nat)) (tabs : List Int) : List (List Int) := rows.foldl (fun ks r => mput ks (tK r tabs)) []
noncomputable def missT (ks : List (List Int)) (ins : List Int) : Int → List (List Nat) → List Int
  | i, r :: t => (bif mhas ks (tK r ins) then [] else [i]) ++ missT ks ins (i + 1) t
  | _, [] => []
noncomputable def lookV (rows : List (List Nat)) (ins tabs : List Int) : List Int := missT (keysT rows tabs) ins 0 rows
structure lLo (nr ni nt : Nat) (cr ci ct : Nat → Nat → Cell) (k : List (List Nat) → List Int → List Int → Prop) : Prop where
  h : ∃ (rows : List (List Nat)) (ins tabs : List Int), (nr = rows.length ∧ IsC nr 1 cr (cT rows)) ∧ (ni = ins.length ∧ IsC ni 1 ci (cI ins)) ∧ (nt = tabs.length ∧ IsC nt 1 ct (cI tabs)) ∧ rows.length ≤ 4000000000000 ∧ ins.length ≤ 4 ∧ tabs.length ≤ 4 ∧ (∀ r ∈ rows, (∀ g ∈ ins, 0 ≤ g ∧ g < (r.length : Int)) ∧ ∀ g ∈ tabs, 0 ≤ g ∧ g < (r.length : Int)) ∧ k rows ins tabs
theorem missT_len (ks : List (List Int)) (ins : List Int) : ∀ (rows : List (List Nat)) (i : Int), (missT ks ins i rows).length ≤ rows.length
  | [], _ => Nat.le_refl _
  | r :: t, i => by
    have := missT_len ks ins t (i + 1)
    rw [missT, List.length_append, List.length_cons]
    cases mhas ks (tK r ins) <;> simp <;> omega
end Go.Pl
namespace Go.Proofs.YtlmjdcbhpffanaaGreat
open Go.Sx Go.Pl
set_option linter.unusedVariables false
set_option maxRecDepth 100000
theorem slkS (b0 b1 b2 : Bool) (rows : List (List Nat)) (ins tabs : List Int) (K : List It → St → Prop) (R : SV → List HO → Prop) : W (xwp Tryz.prog X K77 [] 60 (fxOf Tryz.f61 [] [⟨[0,1,0,1,1], [16,15,14,5,3,0], []⟩, ⟨[0,1,0,1,1,1,1], [29,28,27,8,5,3], [(8,3,1)]⟩]) [] [.at []] ⟨argsS 0 [.x 0 [], .agg [.x 1 [], .x 2 []]], [.ext b0 (.s false 1 rows.length (cT rows)), .ext b1 (.s false 1 ins.length (cI ins)), .ext b2 (.s false 1 tabs.length (cI tabs))]⟩ K R) = W (K [.at [0,1,0,1,1], .blk 0, .at [1,1,1]] (St.mk [(16, .v (vi64 0)), (15, .v (vi64 (↑(List.length rows) : Int))), (14, .x 0 []), (5, .m 1), (3, .p 2 0), (0, .x 0 [])] [.ext b0 (.s false 1 (List.length rows) (cT rows)), .mp true [IntKind.u64, IntKind.u64, IntKind.u64, IntKind.u64, IntKind.u64, IntKind.u64, IntKind.u64, IntKind.u64, IntKind.u64, IntKind.u64, IntKind.u64, IntKind.u64, IntKind.u64, IntKind.u64, IntKind.u64, IntKind.u64] [] Mc.unit, .cells [.x 3 [], .x 4 []] 76, .ext b1 (.s false 1 (List.length ins) (cI ins)), .ext b2 (.s false 1 (List.length tabs) (cI tabs))])) := by kernel_rfl
theorem slk1 (b0 b1 b2 : Bool) (rows : List (List Nat)) (ins tabs : List Int) (kl : List (List Int)) (k M : Nat) (K : List It → St → Prop) (R : SV → List HO → Prop) : W (xwp Tryz.prog X K77 [] 60 (fxOf Tryz.f61 [] [⟨[0,1,0,1,1], [16,15,14,5,3,0], []⟩, ⟨[0,1,0,1,1,1,1], [29,28,27,8,5,3], [(8,3,1)]⟩]) [] (.at [0,0,1,0,1,1] :: .rnd [0,0,1,0,1,1] M :: [.blk 0, .at [1,1,1]]) ⟨[(16, .v (.int .i64 (k : Int))), (15, .v (.int .i64 (rows.length : Int))), (14, .x 0 []), (5, .m 1), (3, .p 2 0), (0, .x 0 [])], [.ext b0 (.s false 1 rows.length (cT rows)), .mp true [.u64, .u64, .u64, .u64, .u64, .u64, .u64, .u64, .u64, .u64, .u64, .u64, .u64, .u64, .u64, .u64] kl .unit, .cells [.x 3 [], .x 4 []] 76, .ext b1 (.s false 1 ins.length (cI ins)), .ext b2 (.s false 1 tabs.length (cI tabs))]⟩ K R) = W (bif decide ((↑k : Int) < (↑(List.length rows) : Int)) then (∀ M : Mem, (0 : Int) ≤ (↑k : Int) ∧ (↑k : Int) < (↑(List.length rows) : Int)) ∧ (∀ M : Mem, k < List.length rows) ∧ (∀ M : Mem, k < List.length rows) ∧ lTk (List.length (gT rows k)) (List.length tabs) (cE (gT rows k)) (cI tabs) fun (l : List Nat) (ns : List Int) => K [.rnd [0,0,1,0,1,1] M, .blk 0, .at [1,1,1]] (St.mk [(16, .v (vi64 (IntKind.wrap .i64 ((↑k : Int) + (1 : Int))))), (15, .v (vi64 (↑(List.length rows) : Int))), (14, .x 0 []), (5, .m 1), (3, .p 2 0), (0, .x 0 [])] [.ext b0 (.s false 1 (List.length rows) (cT rows)), .mp true [IntKind.u64, IntKind.u64, IntKind.u64, IntKind.u64, IntKind.u64, IntKind.u64, IntKind.u64, IntKind.u64, IntKind.u64, IntKind.u64, IntKind.u64, IntKind.u64, IntKind.u64, IntKind.u64, IntKind.u64, IntKind.u64] (mput kl [(↑(limb (tkN l ns 0) 0) : Int), (↑(limb (tkN l ns 0) 1) : Int), (↑(limb (tkN l ns 0) 2) : Int), (↑(limb (tkN l ns 0) 3) : Int), (↑(limb (tkN l ns 1) 0) : Int), (↑(limb (tkN l ns 1) 1) : Int), (↑(limb (tkN l ns 1) 2) : Int), (↑(limb (tkN l ns 1) 3) : Int), (↑(limb (tkN l ns 2) 0) : Int), (↑(limb (tkN l ns 2) 1) : Int), (↑(limb (tkN l ns 2) 2) : Int), (↑(limb (tkN l ns 2) 3) : Int), (↑(limb (tkN l ns 3) 0) : Int), (↑(limb (tkN l ns 3) 1) : Int), (↑(limb (tkN l ns 3) 2) : Int), (↑(limb (tkN l ns 3) 3) : Int)]) Mc.unit, .cells [.x 3 [], .x 4 []] 76, .ext b1 (.s false 1 (List.length ins) (cI ins)), .ext b2 (.s false 1 (List.length tabs) (cI tabs))]) else K [.at [0,1,0,1,1,1,1], .blk 2, .at [1,1,1,1,1]] (St.mk [(29, .v (vi64 0)), (28, .v (vi64 (↑(List.length rows) : Int))), (27, .x 0 []), (8, .o 1), (5, .m 2), (3, .p 3 0)] [.ext b0 (.s false 1 (List.length rows) (cT rows)), .rowc 3 1 0 (.lit 1 []), .mp true [IntKind.u64, IntKind.u64, IntKind.u64, IntKind.u64, IntKind.u64, IntKind.u64, IntKind.u64, IntKind.u64, IntKind.u64, IntKind.u64, IntKind.u64, IntKind.u64, IntKind.u64, IntKind.u64, IntKind.u64, IntKind.u64] kl Mc.unit, .cells [.x 4 [], .x 5 []] 76, .ext b1 (.s false 1 (List.length ins) (cI ins)), .ext b2 (.s false 1 (List.length tabs) (cI tabs))])) := by kernel_rfl
theorem slk2 (b0 b1 b2 : Bool) (rows : List (List Nat)) (ins tabs : List Int) (kl : List (List Int)) (os : List Int) (m k M : Nat) (K : List It → St → Prop) (R : SV → List HO → Prop) : W (xwp Tryz.prog X K77 [] 60 (fxOf Tryz.f61 [] [⟨[0,1,0,1,1], [16,15,14,5,3,0], []⟩, ⟨[0,1,0,1,1,1,1], [29,28,27,8,5,3], [(8,3,1)]⟩]) [] (.at [0,0,1,0,1,1,1,1] :: .rnd [0,0,1,0,1,1,1,1] M :: [.blk 2, .at [1,1,1,1,1]]) ⟨[(29, .v (.int .i64 (k : Int))), (28, .v (.int .i64 (rows.length : Int))), (27, .x 0 []), (8, .o 1), (5, .m 2), (3, .p 3 0)], [.ext b0 (.s false 1 rows.length (cT rows)), .rowc 3 1 m (.fn (cI os)), .mp true [.u64, .u64, .u64, .u64, .u64, .u64, .u64, .u64, .u64, .u64, .u64, .u64, .u64, .u64, .u64, .u64] kl .unit, .cells [.x 4 [], .x 5 []] 76, .ext b1 (.s false 1 ins.length (cI ins)), .ext b2 (.s false 1 tabs.length (cI tabs))]⟩ K R) = W (bif decide ((↑k : Int) < (↑(List.length rows) : Int)) then (∀ M : Mem, (0 : Int) ≤ (↑k : Int) ∧ (↑k : Int) < (↑(List.length rows) : Int)) ∧ (∀ M : Mem, k < List.length rows) ∧ (∀ M : Mem, k < List.length rows) ∧ lTk (List.length (gT rows k)) (List.length ins) (cE (gT rows k)) (cI ins) fun (l : List Nat) (ns : List Int) => (∀ M : Mem, 0 ≤ 0) ∧ bif !mhas kl [(↑(limb (tkN l ns 0) 0) : Int), (↑(limb (tkN l ns 0) 1) : Int), (↑(limb (tkN l ns 0) 2) : Int), (↑(limb (tkN l ns 0) 3) : Int), (↑(limb (tkN l ns 1) 0) : Int), (↑(limb (tkN l ns 1) 1) : Int), (↑(limb (tkN l ns 1) 2) : Int), (↑(limb (tkN l ns 1) 3) : Int), (↑(limb (tkN l ns 2) 0) : Int), (↑(limb (tkN l ns 2) 1) : Int), (↑(limb (tkN l ns 2) 2) : Int), (↑(limb (tkN l ns 2) 3) : Int), (↑(limb (tkN l ns 3) 0) : Int), (↑(limb (tkN l ns 3) 1) : Int), (↑(limb (tkN l ns 3) 2) : Int), (↑(limb (tkN l ns 3) 3) : Int)] then (∀ M : Mem, (m + 1) * 8 ≤ 140737488355328 ∧ m + 1 ≤ 140737488355328) ∧ K [.rnd [0,0,1,0,1,1,1,1] M, .blk 2, .at [1,1,1,1,1]] (St.mk [(29, .v (vi64 (IntKind.wrap .i64 ((↑k : Int) + (1 : Int))))), (28, .v (vi64 (↑(List.length rows) : Int))), (27, .x 0 []), (8, .o 1), (5, .m 2), (3, .p 3 0)] [.ext b0 (.s false 1 (List.length rows) (cT rows)), .rowc 3 1 (m + 1) (.app m (.fn (cI os)) (.lit 1 [.v (vi64 (↑k : Int))])), .mp true [IntKind.u64, IntKind.u64, IntKind.u64, IntKind.u64, IntKind.u64, IntKind.u64, IntKind.u64, IntKind.u64, IntKind.u64, IntKind.u64, IntKind.u64, IntKind.u64, IntKind.u64, IntKind.u64, IntKind.u64, IntKind.u64] kl Mc.unit, .cells [.x 4 [], .x 5 []] 76, .ext b1 (.s false 1 (List.length ins) (cI ins)), .ext b2 (.s false 1 (List.length tabs) (cI tabs))]) else K [.rnd [0,0,1,0,1,1,1,1] M, .blk 2, .at [1,1,1,1,1]] (St.mk [(29, .v (vi64 (IntKind.wrap .i64 ((↑k : Int) + (1 : Int))))), (28, .v (vi64 (↑(List.length rows) : Int))), (27, .x 0 []), (8, .o 1), (5, .m 2), (3, .p 3 0)] [.ext b0 (.s false 1 (List.length rows) (cT rows)), .rowc 3 1 m (.fn (cI os)), .mp true [IntKind.u64, IntKind.u64, IntKind.u64, IntKind.u64, IntKind.u64, IntKind.u64, IntKind.u64, IntKind.u64, IntKind.u64, IntKind.u64, IntKind.u64, IntKind.u64, IntKind.u64, IntKind.u64, IntKind.u64, IntKind.u64] kl Mc.unit, .cells [.x 4 [], .x 5 []] 76, .ext b1 (.s false 1 (List.length ins) (cI ins)), .ext b2 (.s false 1 (List.length tabs) (cI tabs))]) else R (.o 0) [.rowc 3 1 m (.fn (cI os))]) := by kernel_rfl
theorem slk2_loop (b0 b1 b2 : Bool) (rows : List (List Nat)) (ins tabs : List Int) (hr : rows.length ≤ 4000000000000) (hi : ins.length ≤ 4) (ht : tabs.length ≤ 4) (hg : ∀ r ∈ rows, (∀ g ∈ ins, 0 ≤ g ∧ g < (r.length : Int)) ∧ ∀ g ∈ tabs, 0 ≤ g ∧ g < (r.length : Int)) (Q : SV → List HO → Prop) (hq : Q (.o 0) [.rowc 3 1 (lookV rows ins tabs).length (.fn (cI (lookV rows ins tabs)))]) : ∀ (d k : Nat) (os : List Int), k + d = rows.length → os.length ≤ k → lookV rows ins tabs = os ++ missT (keysT rows tabs) ins (k : Int) (rows.drop k) →
    FOk Tryz.prog Tryz.f61 Q (.rnd [0,0,1,0,1,1,1,1] (d + 1) :: [.blk 2, .at [1,1,1,1,1]]) ⟨[(29, .v (.int .i64 (k : Int))), (28, .v (.int .i64 (rows.length : Int))), (27, .x 0 []), (8, .o 1), (5, .m 2), (3, .p 3 0)], [.ext b0 (.s false 1 rows.length (cT rows)), .rowc 3 1 os.length (.fn (cI os)), .mp true [.u64, .u64, .u64, .u64, .u64, .u64, .u64, .u64, .u64, .u64, .u64, .u64, .u64, .u64, .u64, .u64] (keysT rows tabs) .unit, .cells [.x 4 [], .x 5 []] 76, .ext b1 (.s false 1 ins.length (cI ins)), .ext b2 (.s false 1 tabs.length (cI tabs))]⟩
  | 0, k, os, hd, hl, he => by
    refine FOk.rnd (run_sound hm 60 ((slk2 b0 b1 b2 rows ins tabs (keysT rows tabs) os os.length k 0 _ _).mpr ⟨?_⟩))
    rw [cond_dec, if_neg (by omega)]
    rw [show k = rows.length by omega, List.drop_length, missT, List.append_nil] at he
    rw [he] at hq
    exact hq
  | d + 1, k, os, hd, hl, he => by
    have hk : k < rows.length := by omega
    have hgk := hg _ (gT_mem hk)
    refine FOk.rnd (run_sound hm 60 ((slk2 b0 b1 b2 rows ins tabs (keysT rows tabs) os os.length k (d + 1) _ _).mpr ⟨?_⟩))
    rw [cond_dec, if_pos (by omega), wrap_inc _ (by omega)]
    rw [drop_gT hk, missT, show (k : Int) + 1 = ((k + 1 : Nat) : Int) by omega] at he
    refine And.intro (fun _ => by omega) (And.intro (fun _ => by omega) (And.intro (fun _ => by omega) (lTk_mk _ _ hi hgk.1 (And.intro (fun _ => by omega) ?_))))
    show bif !mhas (keysT rows tabs) (tK (gT rows k) ins) then _ else _
    rw [cond_not]
    refine cond_intro (fun h => ?_) (fun h => ?_)
    · rw [h] at he
      exact slk2_loop b0 b1 b2 rows ins tabs hr hi ht hg Q hq d (k + 1) os (by omega) (by omega) he
    · rw [h, cond_false, ← List.append_assoc] at he
      have next := slk2_loop b0 b1 b2 rows ins tabs hr hi ht hg Q hq d (k + 1) (os ++ [(k : Int)]) (by omega) (by simp; omega) he
      rw [List.length_append, List.length_singleton] at next
      exact And.intro (fun _ => by omega) (FOk.cv next ⟨HE.refl _, ⟨rfl, rfl, rfl, cI_snoc _ rfl⟩, HE.refl _, HE.refl _, HE.refl _, HE.refl _, trivial⟩)
theorem slk1_loop (b0 b1 b2 : Bool) (rows : List (List Nat)) (ins tabs : List Int) (hr : rows.length ≤ 4000000000000) (hi : ins.length ≤ 4) (ht : tabs.length ≤ 4) (hg : ∀ r ∈ rows, (∀ g ∈ ins, 0 ≤ g ∧ g < (r.length : Int)) ∧ ∀ g ∈ tabs, 0 ≤ g ∧ g < (r.length : Int)) (Q : SV → List HO → Prop) (hq : Q (.o 0) [.rowc 3 1 (lookV rows ins tabs).length (.fn (cI (lookV rows ins tabs)))]) : ∀ (d k : Nat) (kl : List (List Int)), k + d = rows.length → kl = (rows.take k).foldl (fun ks r => mput ks (tK r tabs)) [] →
    FOk Tryz.prog Tryz.f61 Q (.rnd [0,0,1,0,1,1] (d + 1) :: [.blk 0, .at [1,1,1]]) ⟨[(16, .v (.int .i64 (k : Int))), (15, .v (.int .i64 (rows.length : Int))), (14, .x 0 []), (5, .m 1), (3, .p 2 0), (0, .x 0 [])], [.ext b0 (.s false 1 rows.length (cT rows)), .mp true [.u64, .u64, .u64, .u64, .u64, .u64, .u64, .u64, .u64, .u64, .u64, .u64, .u64, .u64, .u64, .u64] kl .unit, .cells [.x 3 [], .x 4 []] 76, .ext b1 (.s false 1 ins.length (cI ins)), .ext b2 (.s false 1 tabs.length (cI tabs))]⟩
  | 0, k, kl, hd, he => by
    refine FOk.rnd (run_sound hm 60 ((slk1 b0 b1 b2 rows ins tabs kl k 0 _ _).mpr ⟨?_⟩))
    rw [cond_dec, if_neg (by omega)]
    rw [show k = rows.length by omega, List.take_length] at he
    subst he
    exact FOk.loop (rows.length + 1) (by kernel_rfl) (FOk.cv (slk2_loop b0 b1 b2 rows ins tabs hr hi ht hg Q hq rows.length 0 [] (by omega) (Nat.le_refl _) rfl) ⟨HE.refl _, ⟨rfl, rfl, rfl, fun k hk => by simp at hk⟩, HE.refl _, HE.refl _, HE.refl _, HE.refl _, trivial⟩)
  | d + 1, k, kl, hd, he => by
    have hk : k < rows.length := by omega
    have hgk := hg _ (gT_mem hk)
    refine FOk.rnd (run_sound hm 60 ((slk1 b0 b1 b2 rows ins tabs kl k (d + 1) _ _).mpr ⟨?_⟩))
    rw [cond_dec, if_pos (by omega), wrap_inc _ (by omega)]
    refine And.intro (fun _ => by omega) (And.intro (fun _ => by omega) (And.intro (fun _ => by omega) (lTk_mk _ _ ht hgk.2 ?_)))
    exact slk1_loop b0 b1 b2 rows ins tabs hr hi ht hg Q hq d (k + 1) (mput kl (tK (gT rows k) tabs)) (by omega) (by rw [take_gT hk, List.foldl_append, ← he]; rfl)
theorem bSlk : Tryz.f61.body.isSome = true := by kernel_rfl
theorem nSlk : Nat.ble [SV.x 0 [], .agg [.x 1 [], .x 2 []]].length Tryz.f61.ntmps = true := by kernel_rfl
theorem slk_ok (b0 b1 b2 : Bool) (rows : List (List Nat)) (ins tabs : List Int) (hr : rows.length ≤ 4000000000000) (hi : ins.length ≤ 4) (ht : tabs.length ≤ 4) (hg : ∀ r ∈ rows, (∀ g ∈ ins, 0 ≤ g ∧ g < (r.length : Int)) ∧ ∀ g ∈ tabs, 0 ≤ g ∧ g < (r.length : Int)) (Q : SV → List HO → Prop) (hq : Q (.o 0) [.rowc 3 1 (lookV rows ins tabs).length (.fn (cI (lookV rows ins tabs)))]) : FnOk Tryz.prog 61 [.x 0 [], .agg [.x 1 [], .x 2 []]] [.ext b0 (.s false 1 rows.length (cT rows)), .ext b1 (.s false 1 ins.length (cI ins)), .ext b2 (.s false 1 tabs.length (cI tabs))] Q := by
  refine fn_of_ok Tryz.func61 bSlk ?_ ?_
  · exact nSlk
  refine run_sound hm 60 ((slkS b0 b1 b2 rows ins tabs _ _).mpr ⟨?_⟩)
  exact FOk.loop (rows.length + 1) (by kernel_rfl) (slk1_loop b0 b1 b2 rows ins tabs hr hi ht hg Q hq rows.length 0 [] (by omega) rfl)
noncomputable def gSlk : List SV → List HO → Option ((SV → List HO → Prop) → Prop)
  | [.x 0 [], .agg [.x 1 [], .x 2 []]], [.ext _ (.s false 1 nr cr), .ext _ (.s false 1 ni ci), .ext _ (.s false 1 nt ct)] => some fun Q => lLo nr ni nt cr ci ct fun rows ins tabs => Q (.o 0) [.rowc 3 1 (lookV rows ins tabs).length (.fn (cI (lookV rows ins tabs)))]
  | _, _ => none
theorem gSlk_ok (args : List SV) (h : List HO) (tr : (SV → List HO → Prop) → Prop) (Q : SV → List HO → Prop) (hc : gSlk args h = some tr) (ht : tr Q) : FnOk Tryz.prog 61 args h Q := by
  unfold gSlk at hc
  split at hc
  · simp only [Option.some.injEq] at hc
    subst hc
    obtain ⟨rows, ins, tabs, ⟨rfl, e0⟩, ⟨rfl, e1⟩, ⟨rfl, e2⟩, hr, hi, h4, hg, hq⟩ := ht.h
    exact FnOk.ac (slk_ok _ _ _ rows ins tabs hr hi h4 hg Q hq) ⟨⟨rfl, rfl, rfl, rfl, e0⟩, ⟨rfl, rfl, rfl, rfl, e1⟩, ⟨rfl, rfl, rfl, rfl, e2⟩, trivial⟩
  · cases hc
noncomputable def K78 : Con Tryz.prog := K77.add 61 gSlk gSlk_ok
end Go.Proofs.YtlmjdcbhpffanaaGreat
/- A cell that may be copied: its value. -/
namespace Go.Pl
open Go.Sx
noncomputable def cellV (c : Cir) (s : Sht) (so x y : Int) : Nat := fAd so (atS s (gK c.eqs x.toNat).1 (gK c.eqs x.toNat).2 y) 0
end Go.Pl
namespace Go.Proofs.YtlmjdcbhpffanaaGreat
open Go.Sx Go.Pl
set_option linter.unusedVariables false
set_option maxRecDepth 100000
theorem celS (c : Cir) (s : Sht) (so k : Int) (qs : List (Int × Int × Int)) (x y : Int) (K : List It → St → Prop) (R : SV → List HO → Prop) : W (xwp Tryz.prog X K78 [] 60 (fxOf Tryz.f62 [] []) [] [.at []] ⟨argsS 0 [.x 0 [], .agg [.v (.int .i64 x), .v (.int .i64 y)]], [.ext true (.s true 14 1 (fun _ j => flCell c s so k qs j))]⟩ K R) = W ((∀ M : Mem, 0 < 1) ∧ (∀ M : Mem, 0 < 1) ∧ (∀ M : Mem, 0 < 1) ∧ (∀ M : Mem, 0 < 1) ∧ (∀ M : Mem, 0 < 1) ∧ (∀ M : Mem, (0 : Int) ≤ x ∧ x < (↑c.7.length : Int)) ∧ (∀ M : Mem, 0 < 1) ∧ (∀ M : Mem, Int.toNat x < List.length c.7) ∧ (∀ M : Mem, 0 + 2 ≤ 2) ∧ (∀ M : Mem, 0 < 1) ∧ (∀ M : Mem, 0 < 1) ∧ (∀ M : Mem, 0 < 1) ∧ (∀ M : Mem, 0 < 1) ∧ (∀ M : Mem, 0 < 1) ∧ (∀ M : Mem, 0 < 1) ∧ (∀ M : Mem, 0 < 1) ∧ (∀ M : Mem, 0 < 1) ∧ (∀ M : Mem, 0 < 1) ∧ (∀ M : Mem, 0 < 1) ∧ lS s.1.length s.2.length s.3.length s.4.length (cT s.1) (cT s.2) (cT s.3) (cP s.4) fun (s : Sht) => c2C (eI (atS s (gK c.7 (Int.toNat x)).1 (gK c.7 (Int.toNat x)).2 y)) [(0 : Int), (0 : Int), (0 : Int), (0 : Int)] fun (a b : Nat) => (∀ M : Mem, 0 + 4 ≤ 4) ∧ R ((eS (fAd so a b))) []) := by kernel_rfl
theorem bCel : Tryz.f62.body.isSome = true := by kernel_rfl
theorem nCel (x y : Int) : Nat.ble [SV.x 0 [], .agg [.v (.int .i64 x), .v (.int .i64 y)]].length Tryz.f62.ntmps = true := by kernel_rfl
theorem cel_ok (c : Cir) (hc : c.ok) (s : Sht) (hs : s.ok) (so k : Int) (qs : List (Int × Int × Int)) (x y : Int) (hx : 0 ≤ x ∧ x < (c.eqs.length : Int)) (Q : SV → List HO → Prop) (hq : Q (eS (cellV c s so x y)) []) : FnOk Tryz.prog 62 [.x 0 [], .agg [.v (.int .i64 x), .v (.int .i64 y)]] [.ext true (.s true 14 1 (fun _ j => flCell c s so k qs j))] Q := by
  refine fn_of_ok Tryz.func62 bCel ?_ ?_
  · exact nCel x y
  refine run_sound hm 60 ((celS c s so k qs x y _ _).mpr ⟨?_⟩)
  refine And.intro (fun _ => by omega) (And.intro (fun _ => by omega) (And.intro (fun _ => by omega) (And.intro (fun _ => by omega) (And.intro (fun _ => by omega) (And.intro (fun _ => by omega) (And.intro (fun _ => by omega) (And.intro (fun _ => by omega) (And.intro (fun _ => by omega) (And.intro (fun _ => by omega) (And.intro (fun _ => by omega) (And.intro (fun _ => by omega) (And.intro (fun _ => by omega) (And.intro (fun _ => by omega) (And.intro (fun _ => by omega) (And.intro (fun _ => by omega) (And.intro (fun _ => by omega) (And.intro (fun _ => by omega) (And.intro (fun _ => by omega) (lS_mk s hs ⟨⟨_, 0, rfl, eI_zero.symm, atS_top hs _ _ _, by simp only [top]; omega, And.intro (fun _ => by omega) hq⟩⟩)))))))))))))))))))
noncomputable def gCel : List SV → List HO → Option ((SV → List HO → Prop) → Prop)
  | [.x 0 [], .agg [.v (.int .i64 x), .v (.int .i64 y)]], [.ext true (.s true 14 1 fk)] => some fun Q => lFk fk fun c s so k qs => (0 ≤ x ∧ x < (c.eqs.length : Int)) ∧ Q (eS (cellV c s so x y)) []
  | _, _ => none
theorem gCel_ok (args : List SV) (h : List HO) (tr : (SV → List HO → Prop) → Prop) (Q : SV → List HO → Prop) (hc : gCel args h = some tr) (ht : tr Q) : FnOk Tryz.prog 62 args h Q := by
  unfold gCel at hc
  split at hc
  · simp only [Option.some.injEq] at hc
    subst hc
    obtain ⟨c, s, so, k, qs, e, hk, hs, h0, h4, hx, hq⟩ := ht.h
    exact FnOk.ac (cel_ok c hk s hs so k qs _ _ hx Q hq) ⟨⟨rfl, rfl, rfl, rfl, e⟩, trivial⟩
  · cases hc
noncomputable def K79 : Con Tryz.prog := K78.add 62 gCel gCel_ok
end Go.Proofs.YtlmjdcbhpffanaaGreat
/- Right circuits: what follows (plain). -/
namespace Go.Pl
open Go.Sx
theorem chkC_len {c : Cir} (h : chkC c = 0) : c.nodes.length ≤ 64 ∧ c.gates.length ≤ 16 ∧ c.looks.length ≤ 4 ∧ c.eqs.length ≤ 8 := by
  obtain ⟨h0, hg⟩ := chkC_zero h
  have h1 : cntOk c := of_decide_eq_true (goodB_all hg).1
  refine ⟨?_, h1.2.2.2.2⟩
  rw [chkN] at h0
  split at h0
  · cases h0
  · rename_i hn
    exact Nat.le_of_not_lt fun hh => hn (.inl hh)
end Go.Pl
namespace Go.Pl
open Go.Sx
end Go.Pl
namespace Go.Pl
open Go.Sx
end Go.Pl
namespace Go.Pl
open Go.Sx
theorem qsN_mem : ∀ (l : List Nd) (out : List (Int × Int × Int)) (q : Int × Int × Int), q ∈ qsN out l ↔ q ∈ out ∨ ∃ n ∈ l, (2 ≤ n.op ∧ n.op ≤ 4) ∧ q = (n.op, n.a, n.b)
  | [], out, q => by
    rw [qsN]
    exact ⟨.inl, fun h => h.elim id (fun ⟨n, hn, _⟩ => by cases hn)⟩
  | x :: r, out, q => by
    by_cases h1 : 2 ≤ x.op ∧ x.op ≤ 4
    · by_cases h2 : (x.op, x.a, x.b) ∈ out
      · rw [qsN_old out r h2, qsN_mem r]
        constructor
        · rintro (h | ⟨n, hn, h⟩)
          · exact .inl h
          · exact .inr ⟨n, List.mem_cons_of_mem _ hn, h⟩
        · rintro (h | ⟨n, hn, h, e⟩)
          · exact .inl h
          · rcases List.mem_cons.1 hn with rfl | hn
            · exact .inl (e ▸ h2)
            · exact .inr ⟨n, hn, h, e⟩
      · rw [qsN_new out r h1 h2, qsN_mem r]
        constructor
        · rintro (h | ⟨n, hn, h⟩)
          · rcases List.mem_append.1 h with h | h
            · exact .inl h
            · exact .inr ⟨x, List.mem_cons_self, h1, List.mem_singleton.1 h⟩
          · exact .inr ⟨n, List.mem_cons_of_mem _ hn, h⟩
        · rintro (h | ⟨n, hn, h, e⟩)
          · exact .inl (List.mem_append_left _ h)
          · rcases List.mem_cons.1 hn with rfl | hn
            · exact .inl (List.mem_append_right _ (List.mem_singleton.2 e))
            · exact .inr ⟨n, hn, h, e⟩
    · rw [qsN_no out r h1, qsN_mem r]
      constructor
      · rintro (h | ⟨n, hn, h⟩)
        · exact .inl h
        · exact .inr ⟨n, List.mem_cons_of_mem _ hn, h⟩
      · rintro (h | ⟨n, hn, h, e⟩)
        · exact .inl h
        · rcases List.mem_cons.1 hn with rfl | hn
          · exact absurd h h1
          · exact .inr ⟨n, hn, h, e⟩
theorem rot_bnd {c : Cir} (h : chkC c = 0) {n : Nd} (hn : n ∈ c.nodes) (h1 : 2 ≤ n.op) (h2 : n.op ≤ 4) : -3 ≤ n.b ∧ n.b ≤ 3 := by
  obtain ⟨h0, _⟩ := chkC_zero h
  rw [chkN] at h0
  split at h0
  · cases h0
  · rename_i hno
    refine Classical.byContradiction fun hb => hno (.inr (.inr (List.any_eq_true.2 ⟨n, hn, ?_⟩)))
    rw [badN, qryN, decide_eq_true ⟨h1, h2⟩, Bool.true_and]
    exact decide_eq_true (by omega)
theorem frF_le {B : Int} : ∀ (l : List (Int × Int × Int)) (m : Int), (∀ q ∈ l, -3 ≤ q.2.2 ∧ q.2.2 ≤ 3) → (l.foldl frQ m ≤ B ↔ m ≤ B ∧ ∀ q ∈ l, -q.2.2 ≤ B)
  | [], m, _ => by simp
  | x :: r, m, h => by
    have hx := h x List.mem_cons_self
    rw [List.foldl_cons, frF_le r _ fun q hq => h q (List.mem_cons_of_mem _ hq), List.forall_mem_cons, frQ, wrap_in _ (by omega)]
    constructor
    · rintro ⟨h1, h2⟩
      split at h1
      · exact ⟨by omega, by omega, h2⟩
      · exact ⟨h1, by omega, h2⟩
    · rintro ⟨h1, h2, h3⟩
      refine ⟨?_, h3⟩
      split
      · omega
      · exact h1
theorem toF_lt {B k : Int} (hk : 0 ≤ usN k ∧ usN k ≤ 2000) : ∀ (l : List (Int × Int × Int)) (m : Int), (∀ q ∈ l, -3 ≤ q.2.2 ∧ q.2.2 ≤ 3) → (B < l.foldl (toQ k) m ↔ B < m ∧ ∀ q ∈ l, B < usN k - q.2.2)
  | [], m, _ => by simp
  | x :: r, m, h => by
    have hx := h x List.mem_cons_self
    rw [List.foldl_cons, toF_lt hk r _ fun q hq => h q (List.mem_cons_of_mem _ hq), List.forall_mem_cons, toQ, wrap_in _ (by omega)]
    constructor
    · rintro ⟨h1, h2⟩
      split at h1
      · exact ⟨by omega, h1, h2⟩
      · exact ⟨h1, by omega, h2⟩
    · rintro ⟨h1, h2, h3⟩
      refine ⟨?_, h3⟩
      split
      · exact h2
      · exact h1
theorem coneQ_all {c : Cir} {x : Int} {p : Int → Prop} : (∀ q ∈ coneQ c x, p q.2.2) ↔ ∀ g ∈ coneN c.nodes x, (2 ≤ (gN c.nodes g.toNat).op ∧ (gN c.nodes g.toNat).op ≤ 4) → p (gN c.nodes g.toNat).b := by
  constructor
  · intro h g hg ho
    refine h ((gN c.nodes g.toNat).op, (gN c.nodes g.toNat).a, (gN c.nodes g.toNat).b) ((qsN_mem _ _ _).2 (.inr ⟨_, ?_, ho, rfl⟩))
    exact List.mem_map.2 ⟨g, hg, rfl⟩
  · intro h q hq
    rcases (qsN_mem _ _ _).1 hq with hq | ⟨n, hn, ho, rfl⟩
    · cases hq
    · obtain ⟨g, hg, rfl⟩ := List.mem_map.1 hn
      exact h g hg ho
theorem cone_gN {c : Cir} {x g : Int} (h : g ∈ coneN c.nodes x) : gN c.nodes g.toNat ∈ c.nodes := by
  have := coneN_in c.nodes x g h
  rw [gN, List.getD_eq_getElem?_getD, List.getElem?_eq_getElem (by omega)]
  exact List.getElem_mem (by omega)
theorem coneQ_rot {c : Cir} (h : chkC c = 0) (x : Int) : ∀ q ∈ coneQ c x, -3 ≤ q.2.2 ∧ q.2.2 ≤ 3 :=
  (coneQ_all (p := fun z => -3 ≤ z ∧ z ≤ 3)).2 fun _ hg ho => rot_bnd h (cone_gN hg) ho.1 ho.2
theorem usN_bnd {k : Int} (h : k ≤ 10) : 0 ≤ usN k ∧ usN k ≤ 1020 := by
  rw [usN]
  split
  · omega
  · rename_i h2
    have : k = 2 ∨ k = 3 ∨ k = 4 ∨ k = 5 ∨ k = 6 ∨ k = 7 ∨ k = 8 ∨ k = 9 ∨ k = 10 := by omega
    rcases this with rfl | rfl | rfl | rfl | rfl | rfl | rfl | rfl | rfl <;> decide
theorem rows_bnd {c : Cir} (h : chkC c = 0) {k x : Int} (hk : k ≤ 10) : 0 ≤ (rowsV c k x).1 ∧ (rowsV c k x).2 ≤ usN k := by
  have hu := usN_bnd hk
  have hr := coneQ_rot h x
  rw [rowsV]
  split
  · rw [rowsQ]
    split
    · exact ⟨Int.le_refl 0, hu.1⟩
    · refine ⟨((frF_le _ 0 hr).1 (Int.le_refl _)).1, ?_⟩
      refine Int.not_lt.1 fun hh => ?_
      have := ((toF_lt ⟨hu.1, by omega⟩ _ _ hr).1 hh).1
      omega
  · exact ⟨Int.le_refl 0, hu.1⟩
end Go.Pl
/- All faults: plain. -/
namespace Go.Pl
open Go.Sx
noncomputable def gateR (rows : List (List Nat)) (g i : Int) : Nat → Int → List (Int × Int × Int)
  | 0, _ => []
  | d + 1, r => (bif decide (eI (gE (gT rows r.toNat) g.toNat) = [(0 : Int), (0 : Int), (0 : Int), (0 : Int)]) then [] else [((1 : Int), i, r)]) ++ gateR rows g i d (r + 1)
noncomputable def gatesF (c : Cir) (k : Int) (rows : List (List Nat)) : Int → List Int → List (Int × Int × Int)
  | i, g :: t => gateR rows g i ((rowsV c k g).2 - (rowsV c k g).1).toNat (rowsV c k g).1 ++ gatesF c k rows (i + 1) t
  | _, [] => []
noncomputable def looksF (rows : List (List Nat)) : Int → List (List Int × List Int) → List (Int × Int × Int)
  | i, l :: t => (lookV rows l.1 l.2).map (fun r => ((2 : Int), i, r)) ++ looksF rows (i + 1) t
  | _, [] => []
noncomputable def copF (c : Cir) (s : Sht) (so : Int) : Int → List (Int × Int × Int × Int) → List (Int × Int × Int)
  | i, x :: t => (bif decide (eI (cellV c s so x.1 x.2.1) = eI (cellV c s so x.2.2.1 x.2.2.2)) then [] else [((3 : Int), i, (0 : Int))]) ++ copF c s so (i + 1) t
  | _, [] => []
noncomputable def rowsA (c : Cir) (s : Sht) (so k : Int) (n : Nat) : List (List Nat) := (List.range n).map fun (r : Nat) => rowV c s so k (qsN [] c.nodes) (r : Int)
noncomputable def fltV (c : Cir) (s : Sht) (so k : Int) : List (Int × Int × Int) := gatesF c k (rowsA c s so k (usN k).toNat) 0 c.gates ++ (looksF (rowsA c s so k (usN k).toNat) 0 c.looks ++ copF c s so 0 s.cp)
noncomputable def fltR (c : Cir) (s : Sht) (so k : Int) : List (Int × Int × Int) × Int := if fE so ≠ 0 then ([], fE so) else if fitV c k s ≠ 0 then ([], fitV c k s) else (fltV c s so k, 0)
theorem gateR_len (rows : List (List Nat)) (g i : Int) : ∀ (d : Nat) (r : Int), (gateR rows g i d r).length ≤ d
  | 0, _ => Nat.le_refl _
  | d + 1, r => by
    have := gateR_len rows g i d (r + 1)
    rw [gateR, List.length_append]
    cases decide (eI (gE (gT rows r.toNat) g.toNat) = [(0 : Int), (0 : Int), (0 : Int), (0 : Int)]) <;> simp <;> omega
theorem gatesF_len {c : Cir} {k : Int} {rows : List (List Nat)} {B : Nat} (h : ∀ g, ((rowsV c k g).2 - (rowsV c k g).1).toNat ≤ B) : ∀ (l : List Int) (i : Int), (gatesF c k rows i l).length ≤ l.length * B
  | [], _ => by simp [gatesF]
  | g :: t, i => by
    have h1 := gateR_len rows g i ((rowsV c k g).2 - (rowsV c k g).1).toNat (rowsV c k g).1
    have h2 := gatesF_len (rows := rows) h t (i + 1)
    have h3 := h g
    rw [gatesF, List.length_append, List.length_cons, Nat.add_mul]; omega
theorem looksF_len (rows : List (List Nat)) : ∀ (l : List (List Int × List Int)) (i : Int), (looksF rows i l).length ≤ l.length * rows.length
  | [], _ => by simp [looksF]
  | x :: t, i => by
    have h1 := missT_len (keysT rows x.2) x.1 rows 0
    have h2 := looksF_len rows t (i + 1)
    rw [looksF, List.length_append, List.length_map, List.length_cons, Nat.add_mul]
    show (lookV rows x.1 x.2).length + _ ≤ _
    rw [lookV]; omega
theorem copF_len (c : Cir) (s : Sht) (so : Int) : ∀ (l : List (Int × Int × Int × Int)) (i : Int), (copF c s so i l).length ≤ l.length
  | [], _ => Nat.le_refl _
  | x :: t, i => by
    have h2 := copF_len c s so t (i + 1)
    rw [copF, List.length_append, List.length_cons]
    cases decide (eI (cellV c s so x.1 x.2.1) = eI (cellV c s so x.2.2.1 x.2.2.2)) <;> simp <;> omega
theorem usN_le {k : Int} (h : k ≤ 5) : 0 ≤ usN k ∧ usN k ≤ 28 := by
  rw [usN]
  split
  · omega
  · have : k = 2 ∨ k = 3 ∨ k = 4 ∨ k = 5 := by omega
    rcases this with rfl | rfl | rfl | rfl <;> decide
theorem fltV_len {c : Cir} {s : Sht} {so k : Int} (h : chkC c = 0) (hk : k ≤ 5) (hp : s.cp.length ≤ 256) : (fltV c s so k).length ≤ 100000 := by
  have hl := chkC_len h
  have hu := usN_le hk
  have h1 := gatesF_len (c := c) (k := k) (rows := rowsA c s so k (usN k).toNat) (B := 28) (fun g => by
    have := rows_bnd (x := g) h (show k ≤ 10 by omega)
    omega) c.gates 0
  have h2 := looksF_len (rowsA c s so k (usN k).toNat) c.looks 0
  have h3 := copF_len c s so s.cp 0
  have h4 : (rowsA c s so k (usN k).toNat).length ≤ 28 := by rw [rowsA, List.length_map, List.length_range]; omega
  have h5 : c.looks.length * (rowsA c s so k (usN k).toNat).length ≤ 4 * 28 := Nat.mul_le_mul (by omega) h4
  rw [fltV, List.length_append, List.length_append]; omega
theorem gP_mem {l : List (Int × Int × Int × Int)} {k : Nat} (h : k < l.length) : gP l k ∈ l := by
  rw [gP, List.getD_eq_getElem?_getD, List.getElem?_eq_getElem h]
  exact List.getElem_mem h
theorem drop_gL {l : List (List Int × List Int)} {k : Nat} (h : k < l.length) : l.drop k = gL l k :: l.drop (k + 1) := by
  rw [List.drop_eq_getElem_cons h, gL, List.getD_eq_getElem?_getD, List.getElem?_eq_getElem h]; rfl
theorem rowV_len {c : Cir} (h : chkC c = 0) (s : Sht) {so : Int} (hs : fE so = 0) (k r : Int) : (rowV c s so k (qsN [] c.nodes) r).length = c.nodes.length := by
  obtain ⟨h0, _⟩ := chkC_zero h
  obtain ⟨out, _, h1, h2⟩ := vlR_okc ((fE_zero so).1 hs) (chkN_ord h0).2 (show (atQ s k r (qsN [] c.nodes)).length = (qsN [] c.nodes).length by rw [atQ, List.length_map]) (qsN_has c.nodes [])
  rw [rowV, h1]; exact h2
theorem rowsA_mem {c : Cir} (h : chkC c = 0) (s : Sht) {so : Int} (hs : fE so = 0) {k : Int} {n : Nat} : ∀ r ∈ rowsA c s so k n, r.length = c.nodes.length := by
  intro r hr
  obtain ⟨i, _, rfl⟩ := List.mem_map.1 hr
  exact rowV_len h s hs k _
theorem rowsA_ok {c : Cir} (s : Sht) {so k : Int} {n : Nat} : (rowsA c s so k n).length = n := by rw [rowsA, List.length_map, List.length_range]
theorem rowsA_succ (c : Cir) (s : Sht) (so k : Int) (i : Nat) : rowsA c s so k (i + 1) = rowsA c s so k i ++ [rowV c s so k (qsN [] c.nodes) (i : Int)] := by
  rw [rowsA, List.range_succ, List.map_append]; rfl
theorem gates_in {c : Cir} (h : chkC c = 0) : ∀ g ∈ c.gates, 0 ≤ g ∧ g < (c.nodes.length : Int) := by
  obtain ⟨_, hg⟩ := chkC_zero h
  intro g hg2
  exact of_decide_eq_true (any_not (goodB_all hg).2.1 g hg2)
theorem looks_in {c : Cir} (h : chkC c = 0) : ∀ l ∈ c.looks, l.1.length ≤ 4 ∧ l.2.length ≤ 4 ∧ (∀ g ∈ l.1, 0 ≤ g ∧ g < (c.nodes.length : Int)) ∧ ∀ g ∈ l.2, 0 ≤ g ∧ g < (c.nodes.length : Int) := by
  obtain ⟨_, hg⟩ := chkC_zero h
  intro l hl
  obtain ⟨h1, h2, h3, h4, h5⟩ := look_places (any_not (goodB_all hg).2.2.1 l hl)
  have fl : ∀ g, flatB c g = true → 0 ≤ g ∧ g < (c.nodes.length : Int) := fun g hh => by
    rw [flatB, Bool.and_eq_true] at hh
    exact of_decide_eq_true hh.1
  exact ⟨h4, by omega, fun g hh => fl g (h1 g hh), fun g hh => fl g (h2 g hh)⟩
theorem cps_in {c : Cir} {k : Int} {s : Sht} (h : fitV c k s = 0) : s.cp.length ≤ 256 ∧ ∀ x ∈ s.cp, (0 ≤ x.1 ∧ x.1 < (c.eqs.length : Int)) ∧ (0 ≤ x.2.2.1 ∧ x.2.2.1 < (c.eqs.length : Int)) := by
  have hw := (fitV_zero h).2.2.2.2.2.2
  rw [wrP, Bool.or_eq_false_iff, decide_eq_false_iff_not, List.any_eq_false] at hw
  refine ⟨by omega, fun x hx => ?_⟩
  have := hw.2 x hx
  rw [badP, badB, badB, Bool.or_eq_true, decide_eq_true_eq, decide_eq_true_eq] at this
  omega
end Go.Pl
namespace Go.Proofs.YtlmjdcbhpffanaaGreat
open Go.Sx Go.Pl
set_option linter.unusedVariables false
set_option maxRecDepth 100000
end Go.Proofs.YtlmjdcbhpffanaaGreat
/- All faults: the walk. -/
namespace Go.Proofs.YtlmjdcbhpffanaaGreat
open Go.Sx Go.Pl
set_option linter.unusedVariables false
set_option maxRecDepth 100000
theorem fltS (c : Cir) (s : Sht) (so k : Int) (K : List It → St → Prop) (R : SV → List HO → Prop) : W (xwp Tryz.prog X K79 [(58, [])] 60 (fxOf Tryz.f25 [] [⟨[0,1,0,1,1,1,1], [38,37,12,10,5,7,2], [(12,67,1)]⟩, ⟨[0,1,0,1,1,1,1,1,1], [51,50,49,14,12,10,5,7,2], [(14,111,3)]⟩, ⟨[0,1,1,0,0,1,1,0,0,1,0,1,1,1,1,1,1], [17,18,16,15,51,50,49,14,12,10,5,7,2], []⟩, ⟨[0,1,0,1,1,1,1,1,1,1], [87,86,85,14,12,10,5,7], []⟩, ⟨[0,1,1,0,0,1,1,0,0,1,0,1,1,1,1,1,1,1], [96,95,94,19,87,86,85,14,12,10,5,7], []⟩, ⟨[0,1,0,1,1,1,1,1,1,1,1], [111,110,109,14,10], []⟩]) [] [.at []] ⟨argsS 0 [.v (.int .i64 so), .agg [.v (.int .i64 c.fx), .v (.int .i64 c.ad), .v (.int .i64 c.ins), .x 0 [], .x 1 [], .x 2 [], .x 3 []], .v (.int .i64 k), .agg [.x 4 [], .x 5 [], .x 6 [], .x 7 []]], [.ext false (.s false 7 c.nodes.length (cN c.nodes)), .ext false (.s false 1 c.gates.length (cI c.gates)), .ext false (.s false 2 c.looks.length (cL c.looks)), .ext false (.s false 2 c.eqs.length (cK c.eqs)), .ext false (.s false 1 s.fx.length (cT s.fx)), .ext false (.s false 1 s.ad.length (cT s.ad)), .ext false (.s false 1 s.is.length (cT s.is)), .ext false (.s false 4 s.cp.length (cP s.cp))]⟩ K R) = W ((∀ M : Mem, 0 + 4 ≤ 4) ∧ bif !fE so == (0 : Int) then bif !fE so == (0 : Int) then R (.tup [.v (Value.slice none 0 0), .v (vi64 (fE so))]) [] else K [.at [0,1,0,1,1,1,1], .blk 0, .at [1,1,1,1,1]] (St.mk [(38, .v (vi64 0)), (37, .v (vi64 (usN k))), (12, .o 0), (10, .v (Value.pointer none)), (5, .p 1 0), (7, .p 2 0), (2, .v (vi64 k))] [.rowc 67 1 0 (.lit 1 []), .cells [.v (vi64 c.1), .v (vi64 c.2), .v (vi64 c.3), .x 3 [], .x 4 [], .x 5 [], .x 6 []] 27, .cells [.x 7 [], .x 8 [], .x 9 [], .x 10 []] 42, .ext false (.s false 7 c.4.length (cN c.4)), .ext false (.s false 1 c.5.length (cI c.5)), .ext false (.s false 2 c.6.length (cL c.6)), .ext false (.s false 2 c.7.length (cK c.7)), .ext false (.s false 1 s.1.length (cT s.1)), .ext false (.s false 1 s.2.length (cT s.2)), .ext false (.s false 1 s.3.length (cT s.3)), .ext false (.s false 4 s.4.length (cP s.4))]) else lF c.1 c.2 c.3 c.4.length c.5.length c.6.length c.7.length s.1.length s.2.length s.3.length s.4.length (cN c.4) (cI c.5) (cL c.6) (cK c.7) (cT s.1) (cT s.2) (cT s.3) (cP s.4) fun (c_1 : Cir) (s_1 : Sht) => bif !fitV c_1 k s_1 == (0 : Int) then bif !fitV c_1 k s_1 == (0 : Int) then R (.tup [.v (Value.slice none 0 0), .v (vi64 (fitV c_1 k s_1))]) [] else K [.at [0,1,0,1,1,1,1], .blk 0, .at [1,1,1,1,1]] (St.mk [(38, .v (vi64 0)), (37, .v (vi64 (usN k))), (12, .o 0), (10, .v (Value.pointer none)), (5, .p 1 0), (7, .p 2 0), (2, .v (vi64 k))] [.rowc 67 1 0 (.lit 1 []), .cells [.v (vi64 c.1), .v (vi64 c.2), .v (vi64 c.3), .x 3 [], .x 4 [], .x 5 [], .x 6 []] 27, .cells [.x 7 [], .x 8 [], .x 9 [], .x 10 []] 42, .ext false (.s false 7 c.4.length (cN c.4)), .ext false (.s false 1 c.5.length (cI c.5)), .ext false (.s false 2 c.6.length (cL c.6)), .ext false (.s false 2 c.7.length (cK c.7)), .ext false (.s false 1 s.1.length (cT s.1)), .ext false (.s false 1 s.2.length (cT s.2)), .ext false (.s false 1 s.3.length (cT s.3)), .ext false (.s false 4 s.4.length (cP s.4))]) else ∃ (l : List Nd), List.length c.4 = List.length l ∧ IsC c.4.length 7 (cN c.4) (cN l) ∧ List.length l ≤ 4000000000000 ∧ K [.at [0,1,0,1,1,1,1], .blk 0, .at [1,1,1,1,1]] (St.mk [(38, .v (vi64 0)), (37, .v (vi64 (usN k))), (12, .o 0), (10, .p 1 0), (5, .p 2 0), (7, .p 3 0), (2, .v (vi64 k))] [.rowc 67 1 0 (.lit 1 []), .cells [.v (vi64 c.1), .v (vi64 c.2), .v (vi64 c.3), .x 4 [], .x 5 [], .x 6 [], .x 7 [], .x 8 [], .x 9 [], .x 10 [], .x 11 [], .v (vi64 so), .v (vi64 k), .o 12] 154, .cells [.v (vi64 c.1), .v (vi64 c.2), .v (vi64 c.3), .x 13 [], .x 14 [], .x 15 [], .x 16 []] 27, .cells [.x 17 [], .x 18 [], .x 19 [], .x 20 []] 42, .ext false (.s false 7 c.4.length (cN c.4)), .ext false (.s false 1 c.5.length (cI c.5)), .ext false (.s false 2 c.6.length (cL c.6)), .ext false (.s false 2 c.7.length (cK c.7)), .ext false (.s false 1 s.1.length (cT s.1)), .ext false (.s false 1 s.2.length (cT s.2)), .ext false (.s false 1 s.3.length (cT s.3)), .ext false (.s false 4 s.4.length (cP s.4)), .rowc 156 3 (List.length (qsN [] l)) (.fn (cQ (qsN [] l))), .ext false (.s false 7 c.4.length (cN c.4)), .ext false (.s false 1 c.5.length (cI c.5)), .ext false (.s false 2 c.6.length (cL c.6)), .ext false (.s false 2 c.7.length (cK c.7)), .ext false (.s false 1 s.1.length (cT s.1)), .ext false (.s false 1 s.2.length (cT s.2)), .ext false (.s false 1 s.3.length (cT s.3)), .ext false (.s false 4 s.4.length (cP s.4))])) := by kernel_rfl
theorem fa0 (c : Cir) (s : Sht) (so k : Int) (qs : List (Int × Int × Int)) (rows : List (List Nat)) (n : Nat) (u : Int) (i M : Nat) (K : List It → St → Prop) (R : SV → List HO → Prop) : W (xwp Tryz.prog X K79 [] 60 (fxOf Tryz.f25 [] [⟨[0,1,0,1,1,1,1], [38,37,12,10,5,7,2], [(12,67,1)]⟩, ⟨[0,1,0,1,1,1,1,1,1], [51,50,49,14,12,10,5,7,2], [(14,111,3)]⟩, ⟨[0,1,1,0,0,1,1,0,0,1,0,1,1,1,1,1,1], [17,18,16,15,51,50,49,14,12,10,5,7,2], []⟩, ⟨[0,1,0,1,1,1,1,1,1,1], [87,86,85,14,12,10,5,7], []⟩, ⟨[0,1,1,0,0,1,1,0,0,1,0,1,1,1,1,1,1,1], [96,95,94,19,87,86,85,14,12,10,5,7], []⟩, ⟨[0,1,0,1,1,1,1,1,1,1,1], [111,110,109,14,10], []⟩]) [] (.at [0,0,1,0,1,1,1,1] :: .rnd [0,0,1,0,1,1,1,1] M :: [.blk 0, .at [1,1,1,1,1]]) (St.mk [(38, .v (vi64 (i : Int))), (37, .v (vi64 u)), (12, .o 0), (10, .p 1 0), (5, .p 2 0), (7, .p 3 0), (2, .v (vi64 k))] [.rowc 67 1 n (.fn (cT rows)), .cells [.v (vi64 c.1), .v (vi64 c.2), .v (vi64 c.3), .x 4 [], .x 5 [], .x 6 [], .x 7 [], .x 8 [], .x 9 [], .x 10 [], .x 11 [], .v (vi64 so), .v (vi64 k), .o 12] 154, .cells [.v (vi64 c.1), .v (vi64 c.2), .v (vi64 c.3), .x 13 [], .x 14 [], .x 15 [], .x 16 []] 27, .cells [.x 17 [], .x 18 [], .x 19 [], .x 20 []] 42, .ext false (.s false 7 c.4.length (cN c.4)), .ext false (.s false 1 c.5.length (cI c.5)), .ext false (.s false 2 c.6.length (cL c.6)), .ext false (.s false 2 c.7.length (cK c.7)), .ext false (.s false 1 s.1.length (cT s.1)), .ext false (.s false 1 s.2.length (cT s.2)), .ext false (.s false 1 s.3.length (cT s.3)), .ext false (.s false 4 s.4.length (cP s.4)), .rowc 156 3 (List.length (qs)) (.fn (cQ (qs))), .ext false (.s false 7 c.4.length (cN c.4)), .ext false (.s false 1 c.5.length (cI c.5)), .ext false (.s false 2 c.6.length (cL c.6)), .ext false (.s false 2 c.7.length (cK c.7)), .ext false (.s false 1 s.1.length (cT s.1)), .ext false (.s false 1 s.2.length (cT s.2)), .ext false (.s false 1 s.3.length (cT s.3)), .ext false (.s false 4 s.4.length (cP s.4))]) K R) = W (bif decide ((↑i : Int) < u) then lFk (lc 14 [.v (vi64 c.1), .v (vi64 c.2), .v (vi64 c.3), .s false 7 c.4.length (cN c.4), .s false 1 c.5.length (cI c.5), .s false 2 c.6.length (cL c.6), .s false 2 c.7.length (cK c.7), .s false 1 s.1.length (cT s.1), .s false 1 s.2.length (cT s.2), .s false 1 s.3.length (cT s.3), .s false 4 s.4.length (cP s.4), .v (vi64 so), .v (vi64 k), .s false 3 (List.length qs) (cQ qs)]) fun (c_1 : Cir) (s_1 : Sht) (so_1 k_1 : Int) (qs_1 : List (Int × Int × Int)) => (∀ M : Mem, (n + 1) * 24 ≤ 140737488355328 ∧ n + 1 ≤ 140737488355328) ∧ K [.rnd [0,0,1,0,1,1,1,1] M, .blk 0, .at [1,1,1,1,1]] (St.mk [(38, .v (vi64 (IntKind.wrap .i64 ((↑i : Int) + (1 : Int))))), (37, .v (vi64 u)), (12, .o 0), (10, .p 1 0), (5, .p 2 0), (7, .p 3 0), (2, .v (vi64 k))] [.rowc 67 1 (n + 1) (.app n (.fn (cT rows)) (.lit 1 [.s false 4 (List.length (rowV c_1 s_1 so_1 k_1 qs_1 (↑i : Int))) (cE (rowV c_1 s_1 so_1 k_1 qs_1 (↑i : Int)))])), .cells [.v (vi64 c.1), .v (vi64 c.2), .v (vi64 c.3), .x 4 [], .x 5 [], .x 6 [], .x 7 [], .x 8 [], .x 9 [], .x 10 [], .x 11 [], .v (vi64 so), .v (vi64 k), .o 12] 154, .cells [.v (vi64 c.1), .v (vi64 c.2), .v (vi64 c.3), .x 13 [], .x 14 [], .x 15 [], .x 16 []] 27, .cells [.x 17 [], .x 18 [], .x 19 [], .x 20 []] 42, .ext false (.s false 7 c.4.length (cN c.4)), .ext false (.s false 1 c.5.length (cI c.5)), .ext false (.s false 2 c.6.length (cL c.6)), .ext false (.s false 2 c.7.length (cK c.7)), .ext false (.s false 1 s.1.length (cT s.1)), .ext false (.s false 1 s.2.length (cT s.2)), .ext false (.s false 1 s.3.length (cT s.3)), .ext false (.s false 4 s.4.length (cP s.4)), .rowc 156 3 (List.length qs) (.fn (cQ qs)), .ext false (.s false 7 c.4.length (cN c.4)), .ext false (.s false 1 c.5.length (cI c.5)), .ext false (.s false 2 c.6.length (cL c.6)), .ext false (.s false 2 c.7.length (cK c.7)), .ext false (.s false 1 s.1.length (cT s.1)), .ext false (.s false 1 s.2.length (cT s.2)), .ext false (.s false 1 s.3.length (cT s.3)), .ext false (.s false 4 s.4.length (cP s.4))]) else K [.at [0,1,0,1,1,1,1,1,1], .blk 2, .at [1,1,1,1,1,1,1]] (St.mk [(51, .v (vi64 0)), (50, .v (vi64 (↑c.5.length : Int))), (49, .x 0 []), (14, .o 1), (12, .o 2), (10, .p 3 0), (5, .p 4 0), (7, .p 5 0), (2, .v (vi64 k))] [.ext false (.s false 1 c.5.length (cI c.5)), .rowc 111 3 0 (.lit 1 []), .rowc 67 1 n (.fn (cT rows)), .cells [.v (vi64 c.1), .v (vi64 c.2), .v (vi64 c.3), .x 6 [], .x 7 [], .x 8 [], .x 9 [], .x 10 [], .x 11 [], .x 12 [], .x 13 [], .v (vi64 so), .v (vi64 k), .o 14] 154, .cells [.v (vi64 c.1), .v (vi64 c.2), .v (vi64 c.3), .x 15 [], .x 0 [], .x 16 [], .x 17 []] 27, .cells [.x 18 [], .x 19 [], .x 20 [], .x 21 []] 42, .ext false (.s false 7 c.4.length (cN c.4)), .ext false (.s false 1 c.5.length (cI c.5)), .ext false (.s false 2 c.6.length (cL c.6)), .ext false (.s false 2 c.7.length (cK c.7)), .ext false (.s false 1 s.1.length (cT s.1)), .ext false (.s false 1 s.2.length (cT s.2)), .ext false (.s false 1 s.3.length (cT s.3)), .ext false (.s false 4 s.4.length (cP s.4)), .rowc 156 3 (List.length qs) (.fn (cQ qs)), .ext false (.s false 7 c.4.length (cN c.4)), .ext false (.s false 2 c.6.length (cL c.6)), .ext false (.s false 2 c.7.length (cK c.7)), .ext false (.s false 1 s.1.length (cT s.1)), .ext false (.s false 1 s.2.length (cT s.2)), .ext false (.s false 1 s.3.length (cT s.3)), .ext false (.s false 4 s.4.length (cP s.4))])) := by kernel_rfl
theorem fa1 (c : Cir) (s : Sht) (so k : Int) (qs : List (Int × Int × Int)) (rows : List (List Nat)) (n : Nat) (os : List (Int × Int × Int)) (m : Nat) (i M : Nat) (K : List It → St → Prop) (R : SV → List HO → Prop) : W (xwp Tryz.prog X K79 [] 60 (fxOf Tryz.f25 [] [⟨[0,1,0,1,1,1,1], [38,37,12,10,5,7,2], [(12,67,1)]⟩, ⟨[0,1,0,1,1,1,1,1,1], [51,50,49,14,12,10,5,7,2], [(14,111,3)]⟩, ⟨[0,1,1,0,0,1,1,0,0,1,0,1,1,1,1,1,1], [17,18,16,15,51,50,49,14,12,10,5,7,2], []⟩, ⟨[0,1,0,1,1,1,1,1,1,1], [87,86,85,14,12,10,5,7], []⟩, ⟨[0,1,1,0,0,1,1,0,0,1,0,1,1,1,1,1,1,1], [96,95,94,19,87,86,85,14,12,10,5,7], []⟩, ⟨[0,1,0,1,1,1,1,1,1,1,1], [111,110,109,14,10], []⟩]) [] (.at [0,0,1,0,1,1,1,1,1,1] :: .rnd [0,0,1,0,1,1,1,1,1,1] M :: [.blk 2, .at [1,1,1,1,1,1,1]]) (St.mk [(51, .v (vi64 (i : Int))), (50, .v (vi64 (↑c.5.length : Int))), (49, .x 0 []), (14, .o 1), (12, .x 2 []), (10, .p 3 0), (5, .p 4 0), (7, .p 5 0), (2, .v (vi64 k))] [.ext false (.s false 1 c.5.length (cI c.5)), .rowc 111 3 m (.fn (cQ os)), .ext false (.s false 1 n (cT rows)), .cells [.v (vi64 c.1), .v (vi64 c.2), .v (vi64 c.3), .x 6 [], .x 7 [], .x 8 [], .x 9 [], .x 10 [], .x 11 [], .x 12 [], .x 13 [], .v (vi64 so), .v (vi64 k), .o 14] 154, .cells [.v (vi64 c.1), .v (vi64 c.2), .v (vi64 c.3), .x 15 [], .x 0 [], .x 16 [], .x 17 []] 27, .cells [.x 18 [], .x 19 [], .x 20 [], .x 21 []] 42, .ext false (.s false 7 c.4.length (cN c.4)), .ext false (.s false 1 c.5.length (cI c.5)), .ext false (.s false 2 c.6.length (cL c.6)), .ext false (.s false 2 c.7.length (cK c.7)), .ext false (.s false 1 s.1.length (cT s.1)), .ext false (.s false 1 s.2.length (cT s.2)), .ext false (.s false 1 s.3.length (cT s.3)), .ext false (.s false 4 s.4.length (cP s.4)), .rowc 156 3 (List.length qs) (.fn (cQ qs)), .ext false (.s false 7 c.4.length (cN c.4)), .ext false (.s false 2 c.6.length (cL c.6)), .ext false (.s false 2 c.7.length (cK c.7)), .ext false (.s false 1 s.1.length (cT s.1)), .ext false (.s false 1 s.2.length (cT s.2)), .ext false (.s false 1 s.3.length (cT s.3)), .ext false (.s false 4 s.4.length (cP s.4))]) K R) = W (bif decide ((↑i : Int) < (↑c.5.length : Int)) then (∀ M : Mem, (0 : Int) ≤ (↑i : Int) ∧ (↑i : Int) < (↑c.5.length : Int)) ∧ (∀ M : Mem, i < List.length c.5) ∧ lC c.1 c.2 c.3 c.4.length c.5.length c.6.length c.7.length (cN c.4) (cI c.5) (cL c.6) (cK c.7) fun (c_1 : Cir) => K [.at [0,1,1,0,0,1,1,0,0,1,0,1,1,1,1,1,1], .blk 4, .blk 3, .at [1,1,1,0,0,1,0,1,1,1,1,1,1], .rnd [0,0,1,0,1,1,1,1,1,1] M, .blk 2, .at [1,1,1,1,1,1,1]] (St.mk [(17, .v (vi64 (rowsV c_1 k (gI c.5 i)).1)), (18, .v (vi64 (rowsV c_1 k (gI c.5 i)).2)), (16, .v (vi64 (gI c.5 i))), (15, .v (vi64 (↑i : Int))), (51, .v (vi64 (↑i : Int))), (50, .v (vi64 (↑c.5.length : Int))), (49, .x 0 []), (14, .o 1), (12, .x 2 []), (10, .p 3 0), (5, .p 4 0), (7, .p 5 0), (2, .v (vi64 k))] [.ext false (.s false 1 c.5.length (cI c.5)), .rowc 111 3 m (.fn (cQ os)), .ext false (.s false 1 n (cT rows)), .cells [.v (vi64 c.1), .v (vi64 c.2), .v (vi64 c.3), .x 6 [], .x 7 [], .x 8 [], .x 9 [], .x 10 [], .x 11 [], .x 12 [], .x 13 [], .v (vi64 so), .v (vi64 k), .o 14] 154, .cells [.v (vi64 c.1), .v (vi64 c.2), .v (vi64 c.3), .x 15 [], .x 0 [], .x 16 [], .x 17 []] 27, .cells [.x 18 [], .x 19 [], .x 20 [], .x 21 []] 42, .ext false (.s false 7 c.4.length (cN c.4)), .ext false (.s false 1 c.5.length (cI c.5)), .ext false (.s false 2 c.6.length (cL c.6)), .ext false (.s false 2 c.7.length (cK c.7)), .ext false (.s false 1 s.1.length (cT s.1)), .ext false (.s false 1 s.2.length (cT s.2)), .ext false (.s false 1 s.3.length (cT s.3)), .ext false (.s false 4 s.4.length (cP s.4)), .rowc 156 3 (List.length qs) (.fn (cQ qs)), .ext false (.s false 7 c.4.length (cN c.4)), .ext false (.s false 2 c.6.length (cL c.6)), .ext false (.s false 2 c.7.length (cK c.7)), .ext false (.s false 1 s.1.length (cT s.1)), .ext false (.s false 1 s.2.length (cT s.2)), .ext false (.s false 1 s.3.length (cT s.3)), .ext false (.s false 4 s.4.length (cP s.4))]) else K [.at [0,1,0,1,1,1,1,1,1,1], .blk 6, .at [1,1,1,1,1,1,1,1]] (St.mk [(87, .v (vi64 0)), (86, .v (vi64 (↑c.6.length : Int))), (85, .x 0 []), (14, .o 1), (12, .x 2 []), (10, .p 3 0), (5, .p 4 0), (7, .p 5 0)] [.ext false (.s false 2 c.6.length (cL c.6)), .rowc 111 3 m (.fn (cQ os)), .ext false (.s false 1 n (cT rows)), .cells [.v (vi64 c.1), .v (vi64 c.2), .v (vi64 c.3), .x 6 [], .x 7 [], .x 8 [], .x 9 [], .x 10 [], .x 11 [], .x 12 [], .x 13 [], .v (vi64 so), .v (vi64 k), .o 14] 154, .cells [.v (vi64 c.1), .v (vi64 c.2), .v (vi64 c.3), .x 15 [], .x 16 [], .x 0 [], .x 17 []] 27, .cells [.x 18 [], .x 19 [], .x 20 [], .x 21 []] 42, .ext false (.s false 7 c.4.length (cN c.4)), .ext false (.s false 1 c.5.length (cI c.5)), .ext false (.s false 2 c.6.length (cL c.6)), .ext false (.s false 2 c.7.length (cK c.7)), .ext false (.s false 1 s.1.length (cT s.1)), .ext false (.s false 1 s.2.length (cT s.2)), .ext false (.s false 1 s.3.length (cT s.3)), .ext false (.s false 4 s.4.length (cP s.4)), .rowc 156 3 (List.length qs) (.fn (cQ qs)), .ext false (.s false 7 c.4.length (cN c.4)), .ext false (.s false 1 c.5.length (cI c.5)), .ext false (.s false 2 c.7.length (cK c.7)), .ext false (.s false 1 s.1.length (cT s.1)), .ext false (.s false 1 s.2.length (cT s.2)), .ext false (.s false 1 s.3.length (cT s.3)), .ext false (.s false 4 s.4.length (cP s.4))])) := by kernel_rfl
theorem fa2 (c : Cir) (s : Sht) (so k : Int) (qs : List (Int × Int × Int)) (rows : List (List Nat)) (n : Nat) (os : List (Int × Int × Int)) (m : Nat) (i M2 M : Nat) (r to : Int) (K : List It → St → Prop) (R : SV → List HO → Prop) : W (xwp Tryz.prog X K79 [] 60 (fxOf Tryz.f25 [] [⟨[0,1,0,1,1,1,1], [38,37,12,10,5,7,2], [(12,67,1)]⟩, ⟨[0,1,0,1,1,1,1,1,1], [51,50,49,14,12,10,5,7,2], [(14,111,3)]⟩, ⟨[0,1,1,0,0,1,1,0,0,1,0,1,1,1,1,1,1], [17,18,16,15,51,50,49,14,12,10,5,7,2], []⟩, ⟨[0,1,0,1,1,1,1,1,1,1], [87,86,85,14,12,10,5,7], []⟩, ⟨[0,1,1,0,0,1,1,0,0,1,0,1,1,1,1,1,1,1], [96,95,94,19,87,86,85,14,12,10,5,7], []⟩, ⟨[0,1,0,1,1,1,1,1,1,1,1], [111,110,109,14,10], []⟩]) [] (.at [0,0,1,1,0,0,1,1,0,0,1,0,1,1,1,1,1,1] :: .rnd [0,0,1,1,0,0,1,1,0,0,1,0,1,1,1,1,1,1] M :: [.blk 4, .blk 3, .at [1,1,1,0,0,1,0,1,1,1,1,1,1], .rnd [0,0,1,0,1,1,1,1,1,1] M2, .blk 2, .at [1,1,1,1,1,1,1]]) (St.mk [(17, .v (vi64 r)), (18, .v (vi64 to)), (16, .v (vi64 (gI c.5 i))), (15, .v (vi64 (↑i : Int))), (51, .v (vi64 (↑i : Int))), (50, .v (vi64 (↑c.5.length : Int))), (49, .x 0 []), (14, .o 1), (12, .x 2 []), (10, .p 3 0), (5, .p 4 0), (7, .p 5 0), (2, .v (vi64 k))] [.ext false (.s false 1 c.5.length (cI c.5)), .rowc 111 3 m (.fn (cQ os)), .ext false (.s false 1 n (cT rows)), .cells [.v (vi64 c.1), .v (vi64 c.2), .v (vi64 c.3), .x 6 [], .x 7 [], .x 8 [], .x 9 [], .x 10 [], .x 11 [], .x 12 [], .x 13 [], .v (vi64 so), .v (vi64 k), .o 14] 154, .cells [.v (vi64 c.1), .v (vi64 c.2), .v (vi64 c.3), .x 15 [], .x 0 [], .x 16 [], .x 17 []] 27, .cells [.x 18 [], .x 19 [], .x 20 [], .x 21 []] 42, .ext false (.s false 7 c.4.length (cN c.4)), .ext false (.s false 1 c.5.length (cI c.5)), .ext false (.s false 2 c.6.length (cL c.6)), .ext false (.s false 2 c.7.length (cK c.7)), .ext false (.s false 1 s.1.length (cT s.1)), .ext false (.s false 1 s.2.length (cT s.2)), .ext false (.s false 1 s.3.length (cT s.3)), .ext false (.s false 4 s.4.length (cP s.4)), .rowc 156 3 (List.length qs) (.fn (cQ qs)), .ext false (.s false 7 c.4.length (cN c.4)), .ext false (.s false 2 c.6.length (cL c.6)), .ext false (.s false 2 c.7.length (cK c.7)), .ext false (.s false 1 s.1.length (cT s.1)), .ext false (.s false 1 s.2.length (cT s.2)), .ext false (.s false 1 s.3.length (cT s.3)), .ext false (.s false 4 s.4.length (cP s.4))]) K R) = W (bif decide (r < to) then (∀ M : Mem, (0 : Int) ≤ r ∧ r < (↑n : Int)) ∧ (∀ M : Mem, Int.toNat r < n) ∧ (∀ M : Mem, Int.toNat r < n) ∧ (∀ M : Mem, (0 : Int) ≤ gI c.5 i ∧ gI c.5 i < (↑(List.length (gT rows (Int.toNat r))) : Int)) ∧ (∀ M : Mem, Int.toNat r < n) ∧ (∀ M : Mem, Int.toNat (gI c.5 i) < List.length (gT rows (Int.toNat r))) ∧ bif !decide ((eI (gE (gT rows (Int.toNat r)) (Int.toNat (gI c.5 i)))) = [(0 : Int), (0 : Int), (0 : Int), (0 : Int)]) then (∀ M : Mem, (m + 1) * 24 ≤ 140737488355328 ∧ m + 1 ≤ 140737488355328) ∧ K [.rnd [0,0,1,1,0,0,1,1,0,0,1,0,1,1,1,1,1,1] M, .blk 4, .blk 3, .at [1,1,1,0,0,1,0,1,1,1,1,1,1], .rnd [0,0,1,0,1,1,1,1,1,1] M2, .blk 2, .at [1,1,1,1,1,1,1]] (St.mk [(17, .v (vi64 (IntKind.wrap .i64 (r + (1 : Int))))), (18, .v (vi64 to)), (16, .v (vi64 (gI c.5 i))), (15, .v (vi64 (↑i : Int))), (51, .v (vi64 (↑i : Int))), (50, .v (vi64 (↑c.5.length : Int))), (49, .x 0 []), (14, .o 1), (12, .x 2 []), (10, .p 3 0), (5, .p 4 0), (7, .p 5 0), (2, .v (vi64 k))] [.ext false (.s false 1 c.5.length (cI c.5)), .rowc 111 3 (m + 1) (.app m (.fn (cQ os)) (.lit 3 [.v (vi64 1), .v (vi64 (↑i : Int)), .v (vi64 r)])), .ext false (.s false 1 n (cT rows)), .cells [.v (vi64 c.1), .v (vi64 c.2), .v (vi64 c.3), .x 6 [], .x 7 [], .x 8 [], .x 9 [], .x 10 [], .x 11 [], .x 12 [], .x 13 [], .v (vi64 so), .v (vi64 k), .o 14] 154, .cells [.v (vi64 c.1), .v (vi64 c.2), .v (vi64 c.3), .x 15 [], .x 0 [], .x 16 [], .x 17 []] 27, .cells [.x 18 [], .x 19 [], .x 20 [], .x 21 []] 42, .ext false (.s false 7 c.4.length (cN c.4)), .ext false (.s false 1 c.5.length (cI c.5)), .ext false (.s false 2 c.6.length (cL c.6)), .ext false (.s false 2 c.7.length (cK c.7)), .ext false (.s false 1 s.1.length (cT s.1)), .ext false (.s false 1 s.2.length (cT s.2)), .ext false (.s false 1 s.3.length (cT s.3)), .ext false (.s false 4 s.4.length (cP s.4)), .rowc 156 3 (List.length qs) (.fn (cQ qs)), .ext false (.s false 7 c.4.length (cN c.4)), .ext false (.s false 2 c.6.length (cL c.6)), .ext false (.s false 2 c.7.length (cK c.7)), .ext false (.s false 1 s.1.length (cT s.1)), .ext false (.s false 1 s.2.length (cT s.2)), .ext false (.s false 1 s.3.length (cT s.3)), .ext false (.s false 4 s.4.length (cP s.4))]) else K [.rnd [0,0,1,1,0,0,1,1,0,0,1,0,1,1,1,1,1,1] M, .blk 4, .blk 3, .at [1,1,1,0,0,1,0,1,1,1,1,1,1], .rnd [0,0,1,0,1,1,1,1,1,1] M2, .blk 2, .at [1,1,1,1,1,1,1]] (St.mk [(17, .v (vi64 (IntKind.wrap .i64 (r + (1 : Int))))), (18, .v (vi64 to)), (16, .v (vi64 (gI c.5 i))), (15, .v (vi64 (↑i : Int))), (51, .v (vi64 (↑i : Int))), (50, .v (vi64 (↑c.5.length : Int))), (49, .x 0 []), (14, .o 1), (12, .x 2 []), (10, .p 3 0), (5, .p 4 0), (7, .p 5 0), (2, .v (vi64 k))] [.ext false (.s false 1 c.5.length (cI c.5)), .rowc 111 3 m (.fn (cQ os)), .ext false (.s false 1 n (cT rows)), .cells [.v (vi64 c.1), .v (vi64 c.2), .v (vi64 c.3), .x 6 [], .x 7 [], .x 8 [], .x 9 [], .x 10 [], .x 11 [], .x 12 [], .x 13 [], .v (vi64 so), .v (vi64 k), .o 14] 154, .cells [.v (vi64 c.1), .v (vi64 c.2), .v (vi64 c.3), .x 15 [], .x 0 [], .x 16 [], .x 17 []] 27, .cells [.x 18 [], .x 19 [], .x 20 [], .x 21 []] 42, .ext false (.s false 7 c.4.length (cN c.4)), .ext false (.s false 1 c.5.length (cI c.5)), .ext false (.s false 2 c.6.length (cL c.6)), .ext false (.s false 2 c.7.length (cK c.7)), .ext false (.s false 1 s.1.length (cT s.1)), .ext false (.s false 1 s.2.length (cT s.2)), .ext false (.s false 1 s.3.length (cT s.3)), .ext false (.s false 4 s.4.length (cP s.4)), .rowc 156 3 (List.length qs) (.fn (cQ qs)), .ext false (.s false 7 c.4.length (cN c.4)), .ext false (.s false 2 c.6.length (cL c.6)), .ext false (.s false 2 c.7.length (cK c.7)), .ext false (.s false 1 s.1.length (cT s.1)), .ext false (.s false 1 s.2.length (cT s.2)), .ext false (.s false 1 s.3.length (cT s.3)), .ext false (.s false 4 s.4.length (cP s.4))]) else K [.rnd [0,0,1,0,1,1,1,1,1,1] M2, .blk 2, .at [1,1,1,1,1,1,1]] (St.mk [(51, .v (vi64 (IntKind.wrap .i64 ((↑i : Int) + (1 : Int))))), (50, .v (vi64 (↑c.5.length : Int))), (49, .x 0 []), (14, .o 1), (12, .x 2 []), (10, .p 3 0), (5, .p 4 0), (7, .p 5 0), (2, .v (vi64 k))] [.ext false (.s false 1 c.5.length (cI c.5)), .rowc 111 3 m (.fn (cQ os)), .ext false (.s false 1 n (cT rows)), .cells [.v (vi64 c.1), .v (vi64 c.2), .v (vi64 c.3), .x 6 [], .x 7 [], .x 8 [], .x 9 [], .x 10 [], .x 11 [], .x 12 [], .x 13 [], .v (vi64 so), .v (vi64 k), .o 14] 154, .cells [.v (vi64 c.1), .v (vi64 c.2), .v (vi64 c.3), .x 15 [], .x 0 [], .x 16 [], .x 17 []] 27, .cells [.x 18 [], .x 19 [], .x 20 [], .x 21 []] 42, .ext false (.s false 7 c.4.length (cN c.4)), .ext false (.s false 1 c.5.length (cI c.5)), .ext false (.s false 2 c.6.length (cL c.6)), .ext false (.s false 2 c.7.length (cK c.7)), .ext false (.s false 1 s.1.length (cT s.1)), .ext false (.s false 1 s.2.length (cT s.2)), .ext false (.s false 1 s.3.length (cT s.3)), .ext false (.s false 4 s.4.length (cP s.4)), .rowc 156 3 (List.length qs) (.fn (cQ qs)), .ext false (.s false 7 c.4.length (cN c.4)), .ext false (.s false 2 c.6.length (cL c.6)), .ext false (.s false 2 c.7.length (cK c.7)), .ext false (.s false 1 s.1.length (cT s.1)), .ext false (.s false 1 s.2.length (cT s.2)), .ext false (.s false 1 s.3.length (cT s.3)), .ext false (.s false 4 s.4.length (cP s.4))])) := by kernel_rfl
theorem fa3 (c : Cir) (s : Sht) (so k : Int) (qs : List (Int × Int × Int)) (rows : List (List Nat)) (n : Nat) (os : List (Int × Int × Int)) (m : Nat) (i M : Nat) (K : List It → St → Prop) (R : SV → List HO → Prop) : W (xwp Tryz.prog X K79 [] 60 (fxOf Tryz.f25 [] [⟨[0,1,0,1,1,1,1], [38,37,12,10,5,7,2], [(12,67,1)]⟩, ⟨[0,1,0,1,1,1,1,1,1], [51,50,49,14,12,10,5,7,2], [(14,111,3)]⟩, ⟨[0,1,1,0,0,1,1,0,0,1,0,1,1,1,1,1,1], [17,18,16,15,51,50,49,14,12,10,5,7,2], []⟩, ⟨[0,1,0,1,1,1,1,1,1,1], [87,86,85,14,12,10,5,7], []⟩, ⟨[0,1,1,0,0,1,1,0,0,1,0,1,1,1,1,1,1,1], [96,95,94,19,87,86,85,14,12,10,5,7], []⟩, ⟨[0,1,0,1,1,1,1,1,1,1,1], [111,110,109,14,10], []⟩]) [] (.at [0,0,1,0,1,1,1,1,1,1,1] :: .rnd [0,0,1,0,1,1,1,1,1,1,1] M :: [.blk 6, .at [1,1,1,1,1,1,1,1]]) (St.mk [(87, .v (vi64 (i : Int))), (86, .v (vi64 (↑c.6.length : Int))), (85, .x 0 []), (14, .o 1), (12, .x 2 []), (10, .p 3 0), (5, .p 4 0), (7, .p 5 0)] [.ext false (.s false 2 c.6.length (cL c.6)), .rowc 111 3 m (.fn (cQ os)), .ext false (.s false 1 n (cT rows)), .cells [.v (vi64 c.1), .v (vi64 c.2), .v (vi64 c.3), .x 6 [], .x 7 [], .x 8 [], .x 9 [], .x 10 [], .x 11 [], .x 12 [], .x 13 [], .v (vi64 so), .v (vi64 k), .o 14] 154, .cells [.v (vi64 c.1), .v (vi64 c.2), .v (vi64 c.3), .x 15 [], .x 16 [], .x 0 [], .x 17 []] 27, .cells [.x 18 [], .x 19 [], .x 20 [], .x 21 []] 42, .ext false (.s false 7 c.4.length (cN c.4)), .ext false (.s false 1 c.5.length (cI c.5)), .ext false (.s false 2 c.6.length (cL c.6)), .ext false (.s false 2 c.7.length (cK c.7)), .ext false (.s false 1 s.1.length (cT s.1)), .ext false (.s false 1 s.2.length (cT s.2)), .ext false (.s false 1 s.3.length (cT s.3)), .ext false (.s false 4 s.4.length (cP s.4)), .rowc 156 3 (List.length qs) (.fn (cQ qs)), .ext false (.s false 7 c.4.length (cN c.4)), .ext false (.s false 1 c.5.length (cI c.5)), .ext false (.s false 2 c.7.length (cK c.7)), .ext false (.s false 1 s.1.length (cT s.1)), .ext false (.s false 1 s.2.length (cT s.2)), .ext false (.s false 1 s.3.length (cT s.3)), .ext false (.s false 4 s.4.length (cP s.4))]) K R) = W (bif decide ((↑i : Int) < (↑c.6.length : Int)) then (∀ M : Mem, (0 : Int) ≤ (↑i : Int) ∧ (↑i : Int) < (↑c.6.length : Int)) ∧ (∀ M : Mem, i < List.length c.6) ∧ (∀ M : Mem, 0 + 2 ≤ 2) ∧ (∀ M : Mem, i < List.length c.6) ∧ (∀ M : Mem, i < List.length c.6) ∧ lLo n (List.length (gL c.6 i).1) (List.length (gL c.6 i).2) (cT rows) (cI (gL c.6 i).1) (cI (gL c.6 i).2) fun (rows_1 : List (List Nat)) (ins tabs : List Int) => K [.at [0,1,1,0,0,1,1,0,0,1,0,1,1,1,1,1,1,1], .blk 8, .blk 7, .at [1,1,1,0,0,1,0,1,1,1,1,1,1,1], .rnd [0,0,1,0,1,1,1,1,1,1,1] M, .blk 6, .at [1,1,1,1,1,1,1,1]] (St.mk [(96, .v (vi64 0)), (95, .v (vi64 (↑(List.length (lookV rows_1 ins tabs)) : Int))), (94, .o 0), (19, .v (vi64 (↑i : Int))), (87, .v (vi64 (↑i : Int))), (86, .v (vi64 (↑c.6.length : Int))), (85, .x 1 []), (14, .o 2), (12, .x 3 []), (10, .p 4 0), (5, .p 5 0), (7, .p 6 0)] [.rowc 3 1 (List.length (lookV rows_1 ins tabs)) (.fn (cI (lookV rows_1 ins tabs))), .ext false (.s false 2 c.6.length (cL c.6)), .rowc 111 3 m (.fn (cQ os)), .ext false (.s false 1 n (cT rows)), .cells [.v (vi64 c.1), .v (vi64 c.2), .v (vi64 c.3), .x 7 [], .x 8 [], .x 9 [], .x 10 [], .x 11 [], .x 12 [], .x 13 [], .x 14 [], .v (vi64 so), .v (vi64 k), .o 15] 154, .cells [.v (vi64 c.1), .v (vi64 c.2), .v (vi64 c.3), .x 16 [], .x 17 [], .x 1 [], .x 18 []] 27, .cells [.x 19 [], .x 20 [], .x 21 [], .x 22 []] 42, .ext false (.s false 7 c.4.length (cN c.4)), .ext false (.s false 1 c.5.length (cI c.5)), .ext false (.s false 2 c.6.length (cL c.6)), .ext false (.s false 2 c.7.length (cK c.7)), .ext false (.s false 1 s.1.length (cT s.1)), .ext false (.s false 1 s.2.length (cT s.2)), .ext false (.s false 1 s.3.length (cT s.3)), .ext false (.s false 4 s.4.length (cP s.4)), .rowc 156 3 (List.length qs) (.fn (cQ qs)), .ext false (.s false 7 c.4.length (cN c.4)), .ext false (.s false 1 c.5.length (cI c.5)), .ext false (.s false 2 c.7.length (cK c.7)), .ext false (.s false 1 s.1.length (cT s.1)), .ext false (.s false 1 s.2.length (cT s.2)), .ext false (.s false 1 s.3.length (cT s.3)), .ext false (.s false 4 s.4.length (cP s.4))]) else K [.at [0,1,0,1,1,1,1,1,1,1,1], .blk 10, .at [1,1,1,1,1,1,1,1,1]] (St.mk [(111, .v (vi64 0)), (110, .v (vi64 (↑s.4.length : Int))), (109, .x 0 []), (14, .o 1), (10, .p 2 0)] [.ext false (.s false 4 s.4.length (cP s.4)), .rowc 111 3 m (.fn (cQ os)), .cells [.v (vi64 c.1), .v (vi64 c.2), .v (vi64 c.3), .x 3 [], .x 4 [], .x 5 [], .x 6 [], .x 7 [], .x 8 [], .x 9 [], .x 10 [], .v (vi64 so), .v (vi64 k), .o 11] 154, .ext false (.s false 7 c.4.length (cN c.4)), .ext false (.s false 1 c.5.length (cI c.5)), .ext false (.s false 2 c.6.length (cL c.6)), .ext false (.s false 2 c.7.length (cK c.7)), .ext false (.s false 1 s.1.length (cT s.1)), .ext false (.s false 1 s.2.length (cT s.2)), .ext false (.s false 1 s.3.length (cT s.3)), .ext false (.s false 4 s.4.length (cP s.4)), .rowc 156 3 (List.length qs) (.fn (cQ qs))])) := by kernel_rfl
theorem fa4 (c : Cir) (s : Sht) (so k : Int) (qs : List (Int × Int × Int)) (rows : List (List Nat)) (n : Nat) (os : List (Int × Int × Int)) (m : Nat) (ls : List Int) (i j M2 M : Nat) (K : List It → St → Prop) (R : SV → List HO → Prop) : W (xwp Tryz.prog X K79 [] 60 (fxOf Tryz.f25 [] [⟨[0,1,0,1,1,1,1], [38,37,12,10,5,7,2], [(12,67,1)]⟩, ⟨[0,1,0,1,1,1,1,1,1], [51,50,49,14,12,10,5,7,2], [(14,111,3)]⟩, ⟨[0,1,1,0,0,1,1,0,0,1,0,1,1,1,1,1,1], [17,18,16,15,51,50,49,14,12,10,5,7,2], []⟩, ⟨[0,1,0,1,1,1,1,1,1,1], [87,86,85,14,12,10,5,7], []⟩, ⟨[0,1,1,0,0,1,1,0,0,1,0,1,1,1,1,1,1,1], [96,95,94,19,87,86,85,14,12,10,5,7], []⟩, ⟨[0,1,0,1,1,1,1,1,1,1,1], [111,110,109,14,10], []⟩]) [] (.at [0,0,1,1,0,0,1,1,0,0,1,0,1,1,1,1,1,1,1] :: .rnd [0,0,1,1,0,0,1,1,0,0,1,0,1,1,1,1,1,1,1] M :: [.blk 8, .blk 7, .at [1,1,1,0,0,1,0,1,1,1,1,1,1,1], .rnd [0,0,1,0,1,1,1,1,1,1,1] M2, .blk 6, .at [1,1,1,1,1,1,1,1]]) (St.mk [(96, .v (vi64 (j : Int))), (95, .v (vi64 (↑(List.length (ls)) : Int))), (94, .o 0), (19, .v (vi64 (↑i : Int))), (87, .v (vi64 (↑i : Int))), (86, .v (vi64 (↑c.6.length : Int))), (85, .x 1 []), (14, .o 2), (12, .x 3 []), (10, .p 4 0), (5, .p 5 0), (7, .p 6 0)] [.rowc 3 1 (List.length (ls)) (.fn (cI (ls))), .ext false (.s false 2 c.6.length (cL c.6)), .rowc 111 3 m (.fn (cQ os)), .ext false (.s false 1 n (cT rows)), .cells [.v (vi64 c.1), .v (vi64 c.2), .v (vi64 c.3), .x 7 [], .x 8 [], .x 9 [], .x 10 [], .x 11 [], .x 12 [], .x 13 [], .x 14 [], .v (vi64 so), .v (vi64 k), .o 15] 154, .cells [.v (vi64 c.1), .v (vi64 c.2), .v (vi64 c.3), .x 16 [], .x 17 [], .x 1 [], .x 18 []] 27, .cells [.x 19 [], .x 20 [], .x 21 [], .x 22 []] 42, .ext false (.s false 7 c.4.length (cN c.4)), .ext false (.s false 1 c.5.length (cI c.5)), .ext false (.s false 2 c.6.length (cL c.6)), .ext false (.s false 2 c.7.length (cK c.7)), .ext false (.s false 1 s.1.length (cT s.1)), .ext false (.s false 1 s.2.length (cT s.2)), .ext false (.s false 1 s.3.length (cT s.3)), .ext false (.s false 4 s.4.length (cP s.4)), .rowc 156 3 (List.length qs) (.fn (cQ qs)), .ext false (.s false 7 c.4.length (cN c.4)), .ext false (.s false 1 c.5.length (cI c.5)), .ext false (.s false 2 c.7.length (cK c.7)), .ext false (.s false 1 s.1.length (cT s.1)), .ext false (.s false 1 s.2.length (cT s.2)), .ext false (.s false 1 s.3.length (cT s.3)), .ext false (.s false 4 s.4.length (cP s.4))]) K R) = W (bif decide ((↑j : Int) < (↑(List.length ls) : Int)) then (∀ M : Mem, (0 : Int) ≤ (↑j : Int) ∧ (↑j : Int) < (↑(List.length ls) : Int)) ∧ (∀ M : Mem, j < List.length ls) ∧ (∀ M : Mem, (m + 1) * 24 ≤ 140737488355328 ∧ m + 1 ≤ 140737488355328) ∧ K [.rnd [0,0,1,1,0,0,1,1,0,0,1,0,1,1,1,1,1,1,1] M, .blk 8, .blk 7, .at [1,1,1,0,0,1,0,1,1,1,1,1,1,1], .rnd [0,0,1,0,1,1,1,1,1,1,1] M2, .blk 6, .at [1,1,1,1,1,1,1,1]] (St.mk [(96, .v (vi64 (IntKind.wrap .i64 ((↑j : Int) + (1 : Int))))), (95, .v (vi64 (↑(List.length ls) : Int))), (94, .o 0), (19, .v (vi64 (↑i : Int))), (87, .v (vi64 (↑i : Int))), (86, .v (vi64 (↑c.6.length : Int))), (85, .x 1 []), (14, .o 2), (12, .x 3 []), (10, .p 4 0), (5, .p 5 0), (7, .p 6 0)] [.rowc 3 1 (List.length ls) (.fn (cI ls)), .ext false (.s false 2 c.6.length (cL c.6)), .rowc 111 3 (m + 1) (.app m (.fn (cQ os)) (.lit 3 [.v (vi64 2), .v (vi64 (↑i : Int)), .v (vi64 (gI ls j))])), .ext false (.s false 1 n (cT rows)), .cells [.v (vi64 c.1), .v (vi64 c.2), .v (vi64 c.3), .x 7 [], .x 8 [], .x 9 [], .x 10 [], .x 11 [], .x 12 [], .x 13 [], .x 14 [], .v (vi64 so), .v (vi64 k), .o 15] 154, .cells [.v (vi64 c.1), .v (vi64 c.2), .v (vi64 c.3), .x 16 [], .x 17 [], .x 1 [], .x 18 []] 27, .cells [.x 19 [], .x 20 [], .x 21 [], .x 22 []] 42, .ext false (.s false 7 c.4.length (cN c.4)), .ext false (.s false 1 c.5.length (cI c.5)), .ext false (.s false 2 c.6.length (cL c.6)), .ext false (.s false 2 c.7.length (cK c.7)), .ext false (.s false 1 s.1.length (cT s.1)), .ext false (.s false 1 s.2.length (cT s.2)), .ext false (.s false 1 s.3.length (cT s.3)), .ext false (.s false 4 s.4.length (cP s.4)), .rowc 156 3 (List.length qs) (.fn (cQ qs)), .ext false (.s false 7 c.4.length (cN c.4)), .ext false (.s false 1 c.5.length (cI c.5)), .ext false (.s false 2 c.7.length (cK c.7)), .ext false (.s false 1 s.1.length (cT s.1)), .ext false (.s false 1 s.2.length (cT s.2)), .ext false (.s false 1 s.3.length (cT s.3)), .ext false (.s false 4 s.4.length (cP s.4))]) else K [.rnd [0,0,1,0,1,1,1,1,1,1,1] M2, .blk 6, .at [1,1,1,1,1,1,1,1]] (St.mk [(87, .v (vi64 (IntKind.wrap .i64 ((↑i : Int) + (1 : Int))))), (86, .v (vi64 (↑c.6.length : Int))), (85, .x 0 []), (14, .o 1), (12, .x 2 []), (10, .p 3 0), (5, .p 4 0), (7, .p 5 0)] [.ext false (.s false 2 c.6.length (cL c.6)), .rowc 111 3 m (.fn (cQ os)), .ext false (.s false 1 n (cT rows)), .cells [.v (vi64 c.1), .v (vi64 c.2), .v (vi64 c.3), .x 6 [], .x 7 [], .x 8 [], .x 9 [], .x 10 [], .x 11 [], .x 12 [], .x 13 [], .v (vi64 so), .v (vi64 k), .o 14] 154, .cells [.v (vi64 c.1), .v (vi64 c.2), .v (vi64 c.3), .x 15 [], .x 16 [], .x 0 [], .x 17 []] 27, .cells [.x 18 [], .x 19 [], .x 20 [], .x 21 []] 42, .ext false (.s false 7 c.4.length (cN c.4)), .ext false (.s false 1 c.5.length (cI c.5)), .ext false (.s false 2 c.6.length (cL c.6)), .ext false (.s false 2 c.7.length (cK c.7)), .ext false (.s false 1 s.1.length (cT s.1)), .ext false (.s false 1 s.2.length (cT s.2)), .ext false (.s false 1 s.3.length (cT s.3)), .ext false (.s false 4 s.4.length (cP s.4)), .rowc 156 3 (List.length qs) (.fn (cQ qs)), .ext false (.s false 7 c.4.length (cN c.4)), .ext false (.s false 1 c.5.length (cI c.5)), .ext false (.s false 2 c.7.length (cK c.7)), .ext false (.s false 1 s.1.length (cT s.1)), .ext false (.s false 1 s.2.length (cT s.2)), .ext false (.s false 1 s.3.length (cT s.3)), .ext false (.s false 4 s.4.length (cP s.4))])) := by kernel_rfl
theorem fa5 (c : Cir) (s : Sht) (so k : Int) (qs : List (Int × Int × Int)) (rows : List (List Nat)) (n : Nat) (os : List (Int × Int × Int)) (m : Nat) (i M : Nat) (K : List It → St → Prop) (R : SV → List HO → Prop) : W (xwp Tryz.prog X K79 [] 60 (fxOf Tryz.f25 [] [⟨[0,1,0,1,1,1,1], [38,37,12,10,5,7,2], [(12,67,1)]⟩, ⟨[0,1,0,1,1,1,1,1,1], [51,50,49,14,12,10,5,7,2], [(14,111,3)]⟩, ⟨[0,1,1,0,0,1,1,0,0,1,0,1,1,1,1,1,1], [17,18,16,15,51,50,49,14,12,10,5,7,2], []⟩, ⟨[0,1,0,1,1,1,1,1,1,1], [87,86,85,14,12,10,5,7], []⟩, ⟨[0,1,1,0,0,1,1,0,0,1,0,1,1,1,1,1,1,1], [96,95,94,19,87,86,85,14,12,10,5,7], []⟩, ⟨[0,1,0,1,1,1,1,1,1,1,1], [111,110,109,14,10], []⟩]) [] (.at [0,0,1,0,1,1,1,1,1,1,1,1] :: .rnd [0,0,1,0,1,1,1,1,1,1,1,1] M :: [.blk 10, .at [1,1,1,1,1,1,1,1,1]]) (St.mk [(111, .v (vi64 (i : Int))), (110, .v (vi64 (↑s.4.length : Int))), (109, .x 0 []), (14, .o 1), (10, .p 2 0)] [.ext false (.s false 4 s.4.length (cP s.4)), .rowc 111 3 m (.fn (cQ os)), .cells [.v (vi64 c.1), .v (vi64 c.2), .v (vi64 c.3), .x 3 [], .x 4 [], .x 5 [], .x 6 [], .x 7 [], .x 8 [], .x 9 [], .x 10 [], .v (vi64 so), .v (vi64 k), .o 11] 154, .ext false (.s false 7 c.4.length (cN c.4)), .ext false (.s false 1 c.5.length (cI c.5)), .ext false (.s false 2 c.6.length (cL c.6)), .ext false (.s false 2 c.7.length (cK c.7)), .ext false (.s false 1 s.1.length (cT s.1)), .ext false (.s false 1 s.2.length (cT s.2)), .ext false (.s false 1 s.3.length (cT s.3)), .ext false (.s false 4 s.4.length (cP s.4)), .rowc 156 3 (List.length qs) (.fn (cQ qs))]) K R) = W (bif decide ((↑i : Int) < (↑s.4.length : Int)) then (∀ M : Mem, (0 : Int) ≤ (↑i : Int) ∧ (↑i : Int) < (↑s.4.length : Int)) ∧ (∀ M : Mem, i < List.length s.4) ∧ (∀ M : Mem, 0 + 4 ≤ 4) ∧ lFk (lc 14 [.v (vi64 c.1), .v (vi64 c.2), .v (vi64 c.3), .s false 7 c.4.length (cN c.4), .s false 1 c.5.length (cI c.5), .s false 2 c.6.length (cL c.6), .s false 2 c.7.length (cK c.7), .s false 1 s.1.length (cT s.1), .s false 1 s.2.length (cT s.2), .s false 1 s.3.length (cT s.3), .s false 4 s.4.length (cP s.4), .v (vi64 so), .v (vi64 k), .s false 3 (List.length qs) (cQ qs)]) fun (c_1 : Cir) (s_1 : Sht) (so_1 k_1 : Int) (qs_1 : List (Int × Int × Int)) => ((0 : Int) ≤ (gP s.4 i).1 ∧ (gP s.4 i).1 < (↑c_1.7.length : Int)) ∧ lFk (lc 14 [.v (vi64 c.1), .v (vi64 c.2), .v (vi64 c.3), .s false 7 c.4.length (cN c.4), .s false 1 c.5.length (cI c.5), .s false 2 c.6.length (cL c.6), .s false 2 c.7.length (cK c.7), .s false 1 s.1.length (cT s.1), .s false 1 s.2.length (cT s.2), .s false 1 s.3.length (cT s.3), .s false 4 s.4.length (cP s.4), .v (vi64 so), .v (vi64 k), .s false 3 (List.length qs) (cQ qs)]) fun (c_2 : Cir) (s_2 : Sht) (so_2 k_2 : Int) (qs_2 : List (Int × Int × Int)) => ((0 : Int) ≤ (gP s.4 i).2.2.1 ∧ (gP s.4 i).2.2.1 < (↑c_2.7.length : Int)) ∧ bif !decide ((eI (cellV c_1 s_1 so_1 (gP s.4 i).1 (gP s.4 i).2.1)) = (eI (cellV c_2 s_2 so_2 (gP s.4 i).2.2.1 (gP s.4 i).2.2.2))) then (∀ M : Mem, (m + 1) * 24 ≤ 140737488355328 ∧ m + 1 ≤ 140737488355328) ∧ K [.rnd [0,0,1,0,1,1,1,1,1,1,1,1] M, .blk 10, .at [1,1,1,1,1,1,1,1,1]] (St.mk [(111, .v (vi64 (IntKind.wrap .i64 ((↑i : Int) + (1 : Int))))), (110, .v (vi64 (↑s.4.length : Int))), (109, .x 0 []), (14, .o 1), (10, .p 2 0)] [.ext false (.s false 4 s.4.length (cP s.4)), .rowc 111 3 (m + 1) (.app m (.fn (cQ os)) (.lit 3 [.v (vi64 3), .v (vi64 (↑i : Int)), .v (vi64 0)])), .cells [.v (vi64 c.1), .v (vi64 c.2), .v (vi64 c.3), .x 3 [], .x 4 [], .x 5 [], .x 6 [], .x 7 [], .x 8 [], .x 9 [], .x 10 [], .v (vi64 so), .v (vi64 k), .o 11] 154, .ext false (.s false 7 c.4.length (cN c.4)), .ext false (.s false 1 c.5.length (cI c.5)), .ext false (.s false 2 c.6.length (cL c.6)), .ext false (.s false 2 c.7.length (cK c.7)), .ext false (.s false 1 s.1.length (cT s.1)), .ext false (.s false 1 s.2.length (cT s.2)), .ext false (.s false 1 s.3.length (cT s.3)), .ext false (.s false 4 s.4.length (cP s.4)), .rowc 156 3 (List.length qs) (.fn (cQ qs))]) else K [.rnd [0,0,1,0,1,1,1,1,1,1,1,1] M, .blk 10, .at [1,1,1,1,1,1,1,1,1]] (St.mk [(111, .v (vi64 (IntKind.wrap .i64 ((↑i : Int) + (1 : Int))))), (110, .v (vi64 (↑s.4.length : Int))), (109, .x 0 []), (14, .o 1), (10, .p 2 0)] [.ext false (.s false 4 s.4.length (cP s.4)), .rowc 111 3 m (.fn (cQ os)), .cells [.v (vi64 c.1), .v (vi64 c.2), .v (vi64 c.3), .x 3 [], .x 4 [], .x 5 [], .x 6 [], .x 7 [], .x 8 [], .x 9 [], .x 10 [], .v (vi64 so), .v (vi64 k), .o 11] 154, .ext false (.s false 7 c.4.length (cN c.4)), .ext false (.s false 1 c.5.length (cI c.5)), .ext false (.s false 2 c.6.length (cL c.6)), .ext false (.s false 2 c.7.length (cK c.7)), .ext false (.s false 1 s.1.length (cT s.1)), .ext false (.s false 1 s.2.length (cT s.2)), .ext false (.s false 1 s.3.length (cT s.3)), .ext false (.s false 4 s.4.length (cP s.4)), .rowc 156 3 (List.length qs) (.fn (cQ qs))]) else R (.tup [.o 0, .v (vi64 0)]) [.rowc 111 3 m (.fn (cQ os))]) := by kernel_rfl
noncomputable def fT0 (c : Cir) (s : Sht) (so k : Int) (qs : List (Int × Int × Int)) (rows : List (List Nat)) (u : Int) (i : Nat) : St := (St.mk [(38, .v (vi64 (i : Int))), (37, .v (vi64 u)), (12, .o 0), (10, .p 1 0), (5, .p 2 0), (7, .p 3 0), (2, .v (vi64 k))] [.rowc 67 1 rows.length (.fn (cT rows)), .cells [.v (vi64 c.1), .v (vi64 c.2), .v (vi64 c.3), .x 4 [], .x 5 [], .x 6 [], .x 7 [], .x 8 [], .x 9 [], .x 10 [], .x 11 [], .v (vi64 so), .v (vi64 k), .o 12] 154, .cells [.v (vi64 c.1), .v (vi64 c.2), .v (vi64 c.3), .x 13 [], .x 14 [], .x 15 [], .x 16 []] 27, .cells [.x 17 [], .x 18 [], .x 19 [], .x 20 []] 42, .ext false (.s false 7 c.4.length (cN c.4)), .ext false (.s false 1 c.5.length (cI c.5)), .ext false (.s false 2 c.6.length (cL c.6)), .ext false (.s false 2 c.7.length (cK c.7)), .ext false (.s false 1 s.1.length (cT s.1)), .ext false (.s false 1 s.2.length (cT s.2)), .ext false (.s false 1 s.3.length (cT s.3)), .ext false (.s false 4 s.4.length (cP s.4)), .rowc 156 3 (List.length (qs)) (.fn (cQ (qs))), .ext false (.s false 7 c.4.length (cN c.4)), .ext false (.s false 1 c.5.length (cI c.5)), .ext false (.s false 2 c.6.length (cL c.6)), .ext false (.s false 2 c.7.length (cK c.7)), .ext false (.s false 1 s.1.length (cT s.1)), .ext false (.s false 1 s.2.length (cT s.2)), .ext false (.s false 1 s.3.length (cT s.3)), .ext false (.s false 4 s.4.length (cP s.4))])
noncomputable def fT1 (c : Cir) (s : Sht) (so k : Int) (qs : List (Int × Int × Int)) (rows : List (List Nat)) (os : List (Int × Int × Int)) (i : Nat) : St := (St.mk [(51, .v (vi64 (i : Int))), (50, .v (vi64 (↑c.5.length : Int))), (49, .x 0 []), (14, .o 1), (12, .x 2 []), (10, .p 3 0), (5, .p 4 0), (7, .p 5 0), (2, .v (vi64 k))] [.ext false (.s false 1 c.5.length (cI c.5)), .rowc 111 3 os.length (.fn (cQ os)), .ext false (.s false 1 rows.length (cT rows)), .cells [.v (vi64 c.1), .v (vi64 c.2), .v (vi64 c.3), .x 6 [], .x 7 [], .x 8 [], .x 9 [], .x 10 [], .x 11 [], .x 12 [], .x 13 [], .v (vi64 so), .v (vi64 k), .o 14] 154, .cells [.v (vi64 c.1), .v (vi64 c.2), .v (vi64 c.3), .x 15 [], .x 0 [], .x 16 [], .x 17 []] 27, .cells [.x 18 [], .x 19 [], .x 20 [], .x 21 []] 42, .ext false (.s false 7 c.4.length (cN c.4)), .ext false (.s false 1 c.5.length (cI c.5)), .ext false (.s false 2 c.6.length (cL c.6)), .ext false (.s false 2 c.7.length (cK c.7)), .ext false (.s false 1 s.1.length (cT s.1)), .ext false (.s false 1 s.2.length (cT s.2)), .ext false (.s false 1 s.3.length (cT s.3)), .ext false (.s false 4 s.4.length (cP s.4)), .rowc 156 3 (List.length qs) (.fn (cQ qs)), .ext false (.s false 7 c.4.length (cN c.4)), .ext false (.s false 2 c.6.length (cL c.6)), .ext false (.s false 2 c.7.length (cK c.7)), .ext false (.s false 1 s.1.length (cT s.1)), .ext false (.s false 1 s.2.length (cT s.2)), .ext false (.s false 1 s.3.length (cT s.3)), .ext false (.s false 4 s.4.length (cP s.4))])
noncomputable def fT2 (c : Cir) (s : Sht) (so k : Int) (qs : List (Int × Int × Int)) (rows : List (List Nat)) (os : List (Int × Int × Int)) (i : Nat) (r to : Int) : St := (St.mk [(17, .v (vi64 r)), (18, .v (vi64 to)), (16, .v (vi64 (gI c.5 i))), (15, .v (vi64 (↑i : Int))), (51, .v (vi64 (↑i : Int))), (50, .v (vi64 (↑c.5.length : Int))), (49, .x 0 []), (14, .o 1), (12, .x 2 []), (10, .p 3 0), (5, .p 4 0), (7, .p 5 0), (2, .v (vi64 k))] [.ext false (.s false 1 c.5.length (cI c.5)), .rowc 111 3 os.length (.fn (cQ os)), .ext false (.s false 1 rows.length (cT rows)), .cells [.v (vi64 c.1), .v (vi64 c.2), .v (vi64 c.3), .x 6 [], .x 7 [], .x 8 [], .x 9 [], .x 10 [], .x 11 [], .x 12 [], .x 13 [], .v (vi64 so), .v (vi64 k), .o 14] 154, .cells [.v (vi64 c.1), .v (vi64 c.2), .v (vi64 c.3), .x 15 [], .x 0 [], .x 16 [], .x 17 []] 27, .cells [.x 18 [], .x 19 [], .x 20 [], .x 21 []] 42, .ext false (.s false 7 c.4.length (cN c.4)), .ext false (.s false 1 c.5.length (cI c.5)), .ext false (.s false 2 c.6.length (cL c.6)), .ext false (.s false 2 c.7.length (cK c.7)), .ext false (.s false 1 s.1.length (cT s.1)), .ext false (.s false 1 s.2.length (cT s.2)), .ext false (.s false 1 s.3.length (cT s.3)), .ext false (.s false 4 s.4.length (cP s.4)), .rowc 156 3 (List.length qs) (.fn (cQ qs)), .ext false (.s false 7 c.4.length (cN c.4)), .ext false (.s false 2 c.6.length (cL c.6)), .ext false (.s false 2 c.7.length (cK c.7)), .ext false (.s false 1 s.1.length (cT s.1)), .ext false (.s false 1 s.2.length (cT s.2)), .ext false (.s false 1 s.3.length (cT s.3)), .ext false (.s false 4 s.4.length (cP s.4))])
noncomputable def fT3 (c : Cir) (s : Sht) (so k : Int) (qs : List (Int × Int × Int)) (rows : List (List Nat)) (os : List (Int × Int × Int)) (i : Nat) : St := (St.mk [(87, .v (vi64 (i : Int))), (86, .v (vi64 (↑c.6.length : Int))), (85, .x 0 []), (14, .o 1), (12, .x 2 []), (10, .p 3 0), (5, .p 4 0), (7, .p 5 0)] [.ext false (.s false 2 c.6.length (cL c.6)), .rowc 111 3 os.length (.fn (cQ os)), .ext false (.s false 1 rows.length (cT rows)), .cells [.v (vi64 c.1), .v (vi64 c.2), .v (vi64 c.3), .x 6 [], .x 7 [], .x 8 [], .x 9 [], .x 10 [], .x 11 [], .x 12 [], .x 13 [], .v (vi64 so), .v (vi64 k), .o 14] 154, .cells [.v (vi64 c.1), .v (vi64 c.2), .v (vi64 c.3), .x 15 [], .x 16 [], .x 0 [], .x 17 []] 27, .cells [.x 18 [], .x 19 [], .x 20 [], .x 21 []] 42, .ext false (.s false 7 c.4.length (cN c.4)), .ext false (.s false 1 c.5.length (cI c.5)), .ext false (.s false 2 c.6.length (cL c.6)), .ext false (.s false 2 c.7.length (cK c.7)), .ext false (.s false 1 s.1.length (cT s.1)), .ext false (.s false 1 s.2.length (cT s.2)), .ext false (.s false 1 s.3.length (cT s.3)), .ext false (.s false 4 s.4.length (cP s.4)), .rowc 156 3 (List.length qs) (.fn (cQ qs)), .ext false (.s false 7 c.4.length (cN c.4)), .ext false (.s false 1 c.5.length (cI c.5)), .ext false (.s false 2 c.7.length (cK c.7)), .ext false (.s false 1 s.1.length (cT s.1)), .ext false (.s false 1 s.2.length (cT s.2)), .ext false (.s false 1 s.3.length (cT s.3)), .ext false (.s false 4 s.4.length (cP s.4))])
noncomputable def fT4 (c : Cir) (s : Sht) (so k : Int) (qs : List (Int × Int × Int)) (rows : List (List Nat)) (os : List (Int × Int × Int)) (ls : List Int) (i j : Nat) : St := (St.mk [(96, .v (vi64 (j : Int))), (95, .v (vi64 (↑(List.length (ls)) : Int))), (94, .o 0), (19, .v (vi64 (↑i : Int))), (87, .v (vi64 (↑i : Int))), (86, .v (vi64 (↑c.6.length : Int))), (85, .x 1 []), (14, .o 2), (12, .x 3 []), (10, .p 4 0), (5, .p 5 0), (7, .p 6 0)] [.rowc 3 1 (List.length (ls)) (.fn (cI (ls))), .ext false (.s false 2 c.6.length (cL c.6)), .rowc 111 3 os.length (.fn (cQ os)), .ext false (.s false 1 rows.length (cT rows)), .cells [.v (vi64 c.1), .v (vi64 c.2), .v (vi64 c.3), .x 7 [], .x 8 [], .x 9 [], .x 10 [], .x 11 [], .x 12 [], .x 13 [], .x 14 [], .v (vi64 so), .v (vi64 k), .o 15] 154, .cells [.v (vi64 c.1), .v (vi64 c.2), .v (vi64 c.3), .x 16 [], .x 17 [], .x 1 [], .x 18 []] 27, .cells [.x 19 [], .x 20 [], .x 21 [], .x 22 []] 42, .ext false (.s false 7 c.4.length (cN c.4)), .ext false (.s false 1 c.5.length (cI c.5)), .ext false (.s false 2 c.6.length (cL c.6)), .ext false (.s false 2 c.7.length (cK c.7)), .ext false (.s false 1 s.1.length (cT s.1)), .ext false (.s false 1 s.2.length (cT s.2)), .ext false (.s false 1 s.3.length (cT s.3)), .ext false (.s false 4 s.4.length (cP s.4)), .rowc 156 3 (List.length qs) (.fn (cQ qs)), .ext false (.s false 7 c.4.length (cN c.4)), .ext false (.s false 1 c.5.length (cI c.5)), .ext false (.s false 2 c.7.length (cK c.7)), .ext false (.s false 1 s.1.length (cT s.1)), .ext false (.s false 1 s.2.length (cT s.2)), .ext false (.s false 1 s.3.length (cT s.3)), .ext false (.s false 4 s.4.length (cP s.4))])
noncomputable def fT5 (c : Cir) (s : Sht) (so k : Int) (qs : List (Int × Int × Int)) (os : List (Int × Int × Int)) (i : Nat) : St := (St.mk [(111, .v (vi64 (i : Int))), (110, .v (vi64 (↑s.4.length : Int))), (109, .x 0 []), (14, .o 1), (10, .p 2 0)] [.ext false (.s false 4 s.4.length (cP s.4)), .rowc 111 3 os.length (.fn (cQ os)), .cells [.v (vi64 c.1), .v (vi64 c.2), .v (vi64 c.3), .x 3 [], .x 4 [], .x 5 [], .x 6 [], .x 7 [], .x 8 [], .x 9 [], .x 10 [], .v (vi64 so), .v (vi64 k), .o 11] 154, .ext false (.s false 7 c.4.length (cN c.4)), .ext false (.s false 1 c.5.length (cI c.5)), .ext false (.s false 2 c.6.length (cL c.6)), .ext false (.s false 2 c.7.length (cK c.7)), .ext false (.s false 1 s.1.length (cT s.1)), .ext false (.s false 1 s.2.length (cT s.2)), .ext false (.s false 1 s.3.length (cT s.3)), .ext false (.s false 4 s.4.length (cP s.4)), .rowc 156 3 (List.length qs) (.fn (cQ qs))])
theorem fa5_loop (c : Cir) (hc : c.ok) (s : Sht) (hs : s.ok) (so k : Int) (qs : List (Int × Int × Int)) (fin : List (Int × Int × Int)) (hf : fin.length ≤ 100000) (Q : SV → List HO → Prop) (hq : Q (.tup [.o 0, .v (vi64 0)]) [.rowc 111 3 fin.length (.fn (cQ fin))]) (hcp : ∀ x ∈ s.cp, (0 ≤ x.1 ∧ x.1 < (c.eqs.length : Int)) ∧ (0 ≤ x.2.2.1 ∧ x.2.2.1 < (c.eqs.length : Int))) (hp : s.cp.length ≤ 256) (hk0 : 0 ≤ k) (hqs : qs.length ≤ 4000000000000) : ∀ (d i : Nat) (os : List (Int × Int × Int)), i + d = s.cp.length → fin = os ++ copF c s so (i : Int) (s.cp.drop i) →
    FOk Tryz.prog Tryz.f25 Q (.rnd [0,0,1,0,1,1,1,1,1,1,1,1] (d + 1) :: [.blk 10, .at [1, 1, 1, 1, 1, 1, 1, 1, 1]]) (fT5 c s so k qs os i)
  | 0, i, os, hd, he => by
    refine FOk.rnd (run_sound hm 60 ((fa5 c s so k qs [] 0 os os.length i 0 _ _).mpr ⟨?_⟩))
    rw [cond_dec, if_neg (by omega)]
    rw [show i = s.cp.length by omega, List.drop_length, copF, List.append_nil] at he
    rw [he] at hq
    exact hq
  | d + 1, i, os, hd, he => by
    have hi : i < s.cp.length := by omega
    obtain ⟨hx, hy⟩ := hcp _ (gP_mem hi)
    refine FOk.rnd (run_sound hm 60 ((fa5 c s so k qs [] 0 os os.length i (d + 1) _ _).mpr ⟨?_⟩))
    rw [cond_dec, if_pos (by omega), wrap_inc _ (by omega)]
    rw [drop_gP hi, copF, show (i : Int) + 1 = ((i + 1 : Nat) : Int) by omega] at he
    refine And.intro (fun _ => by omega) (And.intro (fun _ => by omega) (And.intro (fun _ => by omega) (lFk_mk c hc s hs so k hk0 qs hqs ⟨hx, lFk_mk c hc s hs so k hk0 qs hqs ⟨hy, ?_⟩⟩)))
    rw [cond_not]
    refine cond_intro (fun h => ?_) (fun h => ?_)
    · rw [h, cond_true, List.nil_append] at he
      exact fa5_loop c hc s hs so k qs fin hf Q hq hcp hp hk0 hqs d (i + 1) os (by omega) he
    · rw [h, cond_false, ← List.append_assoc] at he
      have hlen : os.length + 1 ≤ 100000 := by
        have := congrArg List.length he
        simp only [List.length_append, List.length_cons, List.length_nil] at this
        omega
      exact And.intro (fun _ => by omega) (FOk.cv (fa5_loop c hc s hs so k qs fin hf Q hq hcp hp hk0 hqs d (i + 1) (os ++ [((3 : Int), (i : Int), (0 : Int))]) (by omega) he) ⟨HE.refl _, ⟨rfl, rfl, (by rw [List.length_append]; rfl), cQ_snoc ((3 : Int), (i : Int), (0 : Int)) rfl⟩, HE.refl _, HE.refl _, HE.refl _, HE.refl _, HE.refl _, HE.refl _, HE.refl _, HE.refl _, HE.refl _, HE.refl _, trivial⟩)
theorem fa4_loop (c : Cir) (hc : c.ok) (s : Sht) (hs : s.ok) (so k : Int) (qs : List (Int × Int × Int)) (fin : List (Int × Int × Int)) (hf : fin.length ≤ 100000) (Q : SV → List HO → Prop) (hq : Q (.tup [.o 0, .v (vi64 0)]) [.rowc 111 3 fin.length (.fn (cQ fin))]) (rows : List (List Nat)) (ls : List Int) (hl : ls.length ≤ 100000) (rest : List (Int × Int × Int)) (i M : Nat) (hi : i ≤ 100000) (next : ∀ os, fin = os ++ rest → FOk Tryz.prog Tryz.f25 Q (.rnd [0,0,1,0,1,1,1,1,1,1,1] M :: [.blk 6, .at [1, 1, 1, 1, 1, 1, 1, 1]]) (fT3 c s so k qs rows os (i + 1))) : ∀ (d j : Nat) (os : List (Int × Int × Int)), j + d = ls.length → fin = os ++ ((ls.drop j).map (fun r => ((2 : Int), (i : Int), r)) ++ rest) →
    FOk Tryz.prog Tryz.f25 Q (.rnd [0,0,1,1,0,0,1,1,0,0,1,0,1,1,1,1,1,1,1] (d + 1) :: [.blk 8, .blk 7, .at [1, 1, 1, 0, 0, 1, 0, 1, 1, 1, 1, 1, 1, 1], .rnd [0, 0, 1, 0, 1, 1, 1, 1, 1, 1, 1] M, .blk 6, .at [1, 1, 1, 1, 1, 1, 1, 1]]) (fT4 c s so k qs rows os ls i j)
  | 0, j, os, hd, he => by
    refine FOk.rnd (run_sound hm 60 ((fa4 c s so k qs rows rows.length os os.length ls i j M 0 _ _).mpr ⟨?_⟩))
    rw [cond_dec, if_neg (by omega), wrap_inc _ (by omega)]
    rw [show j = ls.length by omega, List.drop_length, List.map_nil, List.nil_append] at he
    exact next os he
  | d + 1, j, os, hd, he => by
    have hj : j < ls.length := by omega
    rw [drop_gI hj, List.map_cons, List.cons_append, ← List.singleton_append, ← List.append_assoc] at he
    have hlen : os.length + 1 ≤ 100000 := by
      have := congrArg List.length he
      simp only [List.length_append, List.length_cons, List.length_nil] at this
      omega
    refine FOk.rnd (run_sound hm 60 ((fa4 c s so k qs rows rows.length os os.length ls i j M (d + 1) _ _).mpr ⟨?_⟩))
    rw [cond_dec, if_pos (by omega), wrap_inc j (by omega)]
    exact And.intro (fun _ => by omega) (And.intro (fun _ => by omega) (And.intro (fun _ => by omega) (FOk.cv (fa4_loop c hc s hs so k qs fin hf Q hq rows ls hl rest i M hi next d (j + 1) (os ++ [((2 : Int), (i : Int), gI ls j)]) (by omega) he) ⟨HE.refl _, HE.refl _, ⟨rfl, rfl, (by rw [List.length_append]; rfl), cQ_snoc ((2 : Int), (i : Int), gI ls j) rfl⟩, HE.refl _, HE.refl _, HE.refl _, HE.refl _, HE.refl _, HE.refl _, HE.refl _, HE.refl _, HE.refl _, HE.refl _, HE.refl _, HE.refl _, HE.refl _, HE.refl _, HE.refl _, HE.refl _, HE.refl _, HE.refl _, HE.refl _, HE.refl _, trivial⟩)))
theorem fa3_loop (c : Cir) (hc : c.ok) (s : Sht) (hs : s.ok) (so k : Int) (qs : List (Int × Int × Int)) (fin : List (Int × Int × Int)) (hf : fin.length ≤ 100000) (Q : SV → List HO → Prop) (hq : Q (.tup [.o 0, .v (vi64 0)]) [.rowc 111 3 fin.length (.fn (cQ fin))]) (hcp : ∀ x ∈ s.cp, (0 ≤ x.1 ∧ x.1 < (c.eqs.length : Int)) ∧ (0 ≤ x.2.2.1 ∧ x.2.2.1 < (c.eqs.length : Int))) (hp : s.cp.length ≤ 256) (hk0 : 0 ≤ k) (hqs : qs.length ≤ 4000000000000) (rows : List (List Nat)) (hr : rows.length ≤ 4000) (hlk : ∀ l ∈ c.looks, l.1.length ≤ 4 ∧ l.2.length ≤ 4 ∧ (∀ g ∈ l.1, 0 ≤ g ∧ g < (c.nodes.length : Int)) ∧ ∀ g ∈ l.2, 0 ≤ g ∧ g < (c.nodes.length : Int)) (hrl : ∀ r ∈ rows, r.length = c.nodes.length) (hln : c.looks.length ≤ 4) : ∀ (d i : Nat) (os : List (Int × Int × Int)), i + d = c.looks.length → fin = os ++ (looksF rows (i : Int) (c.looks.drop i) ++ copF c s so 0 s.cp) →
    FOk Tryz.prog Tryz.f25 Q (.rnd [0,0,1,0,1,1,1,1,1,1,1] (d + 1) :: [.blk 6, .at [1, 1, 1, 1, 1, 1, 1, 1]]) (fT3 c s so k qs rows os i)
  | 0, i, os, hd, he => by
    refine FOk.rnd (run_sound hm 60 ((fa3 c s so k qs rows rows.length os os.length i 0 _ _).mpr ⟨?_⟩))
    rw [cond_dec, if_neg (by omega)]
    rw [show i = c.looks.length by omega, List.drop_length, looksF, List.nil_append] at he
    exact FOk.loop (s.cp.length + 1) (by kernel_rfl) (fa5_loop c hc s hs so k qs fin hf Q hq hcp hp hk0 hqs s.cp.length 0 os (by omega) he)
  | d + 1, i, os, hd, he => by
    have hi : i < c.looks.length := by omega
    obtain ⟨l1, l2, g1, g2⟩ := hlk _ (gL_mem hi)
    rw [drop_gL hi, looksF, show (i : Int) + 1 = ((i + 1 : Nat) : Int) by omega, List.append_assoc] at he
    have hml := missT_len (keysT rows (gL c.looks i).2) (gL c.looks i).1 rows 0
    refine FOk.rnd (run_sound hm 60 ((fa3 c s so k qs rows rows.length os os.length i (d + 1) _ _).mpr ⟨?_⟩))
    rw [cond_dec, if_pos (by omega)]
    refine And.intro (fun _ => by omega) (And.intro (fun _ => by omega) (And.intro (fun _ => by omega) (And.intro (fun _ => by omega) (And.intro (fun _ => by omega) (⟨⟨rows, (gL c.looks i).1, (gL c.looks i).2, ⟨rfl, IsC.refl _ _ _⟩, ⟨rfl, IsC.refl _ _ _⟩, ⟨rfl, IsC.refl _ _ _⟩, by omega, l1, l2, fun r hr2 => ⟨fun g hg => by rw [hrl r hr2]; exact g1 g hg, fun g hg => by rw [hrl r hr2]; exact g2 g hg⟩, ?_⟩⟩)))))
    exact FOk.loop ((lookV rows (gL c.looks i).1 (gL c.looks i).2).length + 1) (by kernel_rfl) (fa4_loop c hc s hs so k qs fin hf Q hq rows (lookV rows (gL c.looks i).1 (gL c.looks i).2) (by rw [lookV]; omega) _ i (d + 1) (by omega) (fun os2 he2 => fa3_loop c hc s hs so k qs fin hf Q hq hcp hp hk0 hqs rows hr hlk hrl hln d (i + 1) os2 (by omega) he2) (lookV rows (gL c.looks i).1 (gL c.looks i).2).length 0 os (by omega) he)
theorem fa2_loop (c : Cir) (hc : c.ok) (s : Sht) (hs : s.ok) (so k : Int) (qs : List (Int × Int × Int)) (fin : List (Int × Int × Int)) (hf : fin.length ≤ 100000) (Q : SV → List HO → Prop) (hq : Q (.tup [.o 0, .v (vi64 0)]) [.rowc 111 3 fin.length (.fn (cQ fin))]) (rows : List (List Nat)) (hr : rows.length ≤ 4000) (i : Nat) (hi : i < c.gates.length) (hi2 : i ≤ 100000) (hg : ∀ r ∈ rows, 0 ≤ gI c.gates i ∧ gI c.gates i < (r.length : Int)) (rest : List (Int × Int × Int)) (M : Nat) (to : Int) (hto : to ≤ (rows.length : Int)) (next : ∀ os, fin = os ++ rest → FOk Tryz.prog Tryz.f25 Q (.rnd [0,0,1,0,1,1,1,1,1,1] M :: [.blk 2, .at [1, 1, 1, 1, 1, 1, 1]]) (fT1 c s so k qs rows os (i + 1))) : ∀ (d : Nat) (r : Int) (os : List (Int × Int × Int)), 0 ≤ r → (to - r).toNat = d → fin = os ++ (gateR rows (gI c.gates i) (i : Int) d r ++ rest) →
    FOk Tryz.prog Tryz.f25 Q (.rnd [0,0,1,1,0,0,1,1,0,0,1,0,1,1,1,1,1,1] (d + 1) :: [.blk 4, .blk 3, .at [1, 1, 1, 0, 0, 1, 0, 1, 1, 1, 1, 1, 1], .rnd [0, 0, 1, 0, 1, 1, 1, 1, 1, 1] M, .blk 2, .at [1, 1, 1, 1, 1, 1, 1]]) (fT2 c s so k qs rows os i r to)
  | 0, r, os, h0, hd, he => by
    refine FOk.rnd (run_sound hm 60 ((fa2 c s so k qs rows rows.length os os.length i M 0 r to _ _).mpr ⟨?_⟩))
    rw [cond_dec, if_neg (by omega), wrap_inc _ (by omega)]
    rw [gateR, List.nil_append] at he
    exact next os he
  | d + 1, r, os, h0, hd, he => by
    rw [gateR] at he
    have hgr := hg _ (gT_mem (show r.toNat < rows.length by omega))
    refine FOk.rnd (run_sound hm 60 ((fa2 c s so k qs rows rows.length os os.length i M (d + 1) r to _ _).mpr ⟨?_⟩))
    rw [cond_dec, if_pos (by omega), wrap_in (r + 1) (by omega)]
    refine And.intro (fun _ => by omega) (And.intro (fun _ => by omega) (And.intro (fun _ => by omega) (And.intro (fun _ => by omega) (And.intro (fun _ => by omega) (And.intro (fun _ => by omega) (?_))))))
    rw [cond_not]
    refine cond_intro (fun h => ?_) (fun h => ?_)
    · rw [h, cond_true, List.nil_append] at he
      exact fa2_loop c hc s hs so k qs fin hf Q hq rows hr i hi hi2 hg rest M to hto next d (r + 1) os (by omega) (by omega) he
    · rw [h, cond_false, List.append_assoc, ← List.append_assoc] at he
      have hlen : os.length + 1 ≤ 100000 := by
        have := congrArg List.length he
        simp only [List.length_append, List.length_cons, List.length_nil] at this
        omega
      exact And.intro (fun _ => by omega) (FOk.cv (fa2_loop c hc s hs so k qs fin hf Q hq rows hr i hi hi2 hg rest M to hto next d (r + 1) (os ++ [((1 : Int), (i : Int), r)]) (by omega) (by omega) he) ⟨HE.refl _, ⟨rfl, rfl, (by rw [List.length_append]; rfl), cQ_snoc ((1 : Int), (i : Int), r) rfl⟩, HE.refl _, HE.refl _, HE.refl _, HE.refl _, HE.refl _, HE.refl _, HE.refl _, HE.refl _, HE.refl _, HE.refl _, HE.refl _, HE.refl _, HE.refl _, HE.refl _, HE.refl _, HE.refl _, HE.refl _, HE.refl _, HE.refl _, HE.refl _, trivial⟩)
theorem fa1_loop (c : Cir) (hc : c.ok) (s : Sht) (hs : s.ok) (so k : Int) (qs : List (Int × Int × Int)) (fin : List (Int × Int × Int)) (hf : fin.length ≤ 100000) (Q : SV → List HO → Prop) (hq : Q (.tup [.o 0, .v (vi64 0)]) [.rowc 111 3 fin.length (.fn (cQ fin))]) (hcp : ∀ x ∈ s.cp, (0 ≤ x.1 ∧ x.1 < (c.eqs.length : Int)) ∧ (0 ≤ x.2.2.1 ∧ x.2.2.1 < (c.eqs.length : Int))) (hp : s.cp.length ≤ 256) (hk0 : 0 ≤ k) (hqs : qs.length ≤ 4000000000000) (rows : List (List Nat)) (hr : rows.length ≤ 4000) (hlk : ∀ l ∈ c.looks, l.1.length ≤ 4 ∧ l.2.length ≤ 4 ∧ (∀ g ∈ l.1, 0 ≤ g ∧ g < (c.nodes.length : Int)) ∧ ∀ g ∈ l.2, 0 ≤ g ∧ g < (c.nodes.length : Int)) (hrl : ∀ r ∈ rows, r.length = c.nodes.length) (hln : c.looks.length ≤ 4) (h0 : chkC c = 0) (hk5 : k ≤ 5) (hru : (rows.length : Int) = usN k) : ∀ (d i : Nat) (os : List (Int × Int × Int)), i + d = c.gates.length → fin = os ++ (gatesF c k rows (i : Int) (c.gates.drop i) ++ (looksF rows 0 c.looks ++ copF c s so 0 s.cp)) →
    FOk Tryz.prog Tryz.f25 Q (.rnd [0,0,1,0,1,1,1,1,1,1] (d + 1) :: [.blk 2, .at [1, 1, 1, 1, 1, 1, 1]]) (fT1 c s so k qs rows os i)
  | 0, i, os, hd, he => by
    refine FOk.rnd (run_sound hm 60 ((fa1 c s so k qs rows rows.length os os.length i 0 _ _).mpr ⟨?_⟩))
    rw [cond_dec, if_neg (by omega)]
    rw [show i = c.gates.length by omega, List.drop_length, gatesF, List.nil_append] at he
    exact FOk.loop (c.looks.length + 1) (by kernel_rfl) (fa3_loop c hc s hs so k qs fin hf Q hq hcp hp hk0 hqs rows hr hlk hrl hln c.looks.length 0 os (by omega) he)
  | d + 1, i, os, hd, he => by
    have hi : i < c.gates.length := by omega
    have hin := gates_in h0 _ (gI_mem hi)
    have hl := chkC_len h0
    have hb := rows_bnd (x := gI c.gates i) h0 (show k ≤ 10 by omega)
    rw [drop_gI hi, gatesF, show (i : Int) + 1 = ((i + 1 : Nat) : Int) by omega, List.append_assoc] at he
    refine FOk.rnd (run_sound hm 60 ((fa1 c s so k qs rows rows.length os os.length i (d + 1) _ _).mpr ⟨?_⟩))
    rw [cond_dec, if_pos (by omega)]
    refine And.intro (fun _ => by omega) (And.intro (fun _ => by omega) (lC_mk c hc ?_))
    exact FOk.loop (((rowsV c k (gI c.gates i)).2 - (rowsV c k (gI c.gates i)).1).toNat + 1) (by kernel_rfl) (fa2_loop c hc s hs so k qs fin hf Q hq rows hr i hi (by omega) (fun r hr2 => by rw [hrl r hr2]; exact hin) _ (d + 1) _ (by omega) (fun os2 he2 => fa1_loop c hc s hs so k qs fin hf Q hq hcp hp hk0 hqs rows hr hlk hrl hln h0 hk5 hru d (i + 1) os2 (by omega) he2) _ _ os hb.1 rfl he)
theorem fa0_loop (c : Cir) (hc : c.ok) (s : Sht) (hs : s.ok) (so k : Int) (qs : List (Int × Int × Int)) (fin : List (Int × Int × Int)) (hf : fin.length ≤ 100000) (Q : SV → List HO → Prop) (hq : Q (.tup [.o 0, .v (vi64 0)]) [.rowc 111 3 fin.length (.fn (cQ fin))]) (hcp : ∀ x ∈ s.cp, (0 ≤ x.1 ∧ x.1 < (c.eqs.length : Int)) ∧ (0 ≤ x.2.2.1 ∧ x.2.2.1 < (c.eqs.length : Int))) (hp : s.cp.length ≤ 256) (hk0 : 0 ≤ k) (hqs : qs.length ≤ 4000000000000) (h0 : chkC c = 0) (hso : fE so = 0) (hk5 : k ≤ 5) (he : fin = fltV c s so k) (hqq : qs = qsN [] c.nodes) : ∀ (d i : Nat) (rows : List (List Nat)), i + d = (usN k).toNat → rows = rowsA c s so k i →
    FOk Tryz.prog Tryz.f25 Q (.rnd [0,0,1,0,1,1,1,1] (d + 1) :: [.blk 0, .at [1, 1, 1, 1, 1]]) (fT0 c s so k qs rows (usN k) i)
  | 0, i, rows, hd, hrw => by
    have hu := usN_le hk5
    have hl := chkC_len h0
    have hrl : rows.length = (usN k).toNat := by rw [hrw, rowsA_ok]; omega
    refine FOk.rnd (run_sound hm 60 ((fa0 c s so k qs rows rows.length (usN k) i 0 _ _).mpr ⟨?_⟩))
    rw [cond_dec, if_neg (by omega)]
    refine FOk.frz 2 rfl (FOk.norm (ks := [51,50,49,14,12,10,5,7,2]) (nl := []) (st' := (St.mk [(51, SV.v (vi64 (0 : Int))), (50, SV.v (vi64 (↑(List.length c.5) : Int))), (49, SV.x 0 []), (14, SV.o 1), (12, SV.x 2 []), (10, SV.p 3 0), (5, SV.p 4 0), (7, SV.p 5 0), (2, SV.v (vi64 k))] [HO.ext false (Cell.s false 1 (List.length c.5) (cI c.5)), HO.rowc 111 3 0 (Ct.lit 1 []), HO.ext false (Cell.s false 1 rows.length (cT rows)), HO.cells [SV.v (vi64 c.1), SV.v (vi64 c.2), SV.v (vi64 c.3), SV.x 6 [], SV.x 7 [], SV.x 8 [], SV.x 9 [], SV.x 10 [], SV.x 11 [], SV.x 12 [], SV.x 13 [], SV.v (vi64 so), SV.v (vi64 k), SV.o 14] 154, HO.cells [SV.v (vi64 c.1), SV.v (vi64 c.2), SV.v (vi64 c.3), SV.x 15 [], SV.x 0 [], SV.x 16 [], SV.x 17 []] 27, HO.cells [SV.x 18 [], SV.x 19 [], SV.x 20 [], SV.x 21 []] 42, HO.ext false (Cell.s false 7 (List.length c.4) (cN c.4)), HO.ext false (Cell.s false 1 (List.length c.5) (cI c.5)), HO.ext false (Cell.s false 2 (List.length c.6) (cL c.6)), HO.ext false (Cell.s false 2 (List.length c.7) (cK c.7)), HO.ext false (Cell.s false 1 (List.length s.1) (cT s.1)), HO.ext false (Cell.s false 1 (List.length s.2) (cT s.2)), HO.ext false (Cell.s false 1 (List.length s.3) (cT s.3)), HO.ext false (Cell.s false 4 (List.length s.4) (cP s.4)), HO.rowc 156 3 (List.length qs) (Ct.fn (cQ qs)), HO.ext false (Cell.s false 7 (List.length c.4) (cN c.4)), HO.ext false (Cell.s false 2 (List.length c.6) (cL c.6)), HO.ext false (Cell.s false 2 (List.length c.7) (cK c.7)), HO.ext false (Cell.s false 1 (List.length s.1) (cT s.1)), HO.ext false (Cell.s false 1 (List.length s.2) (cT s.2)), HO.ext false (Cell.s false 1 (List.length s.3) (cT s.3)), HO.ext false (Cell.s false 4 (List.length s.4) (cP s.4))])) (by kernel_rfl) ?_)
    exact FOk.loop (c.gates.length + 1) (by kernel_rfl) (FOk.cv (fa1_loop c hc s hs so k qs fin hf Q hq hcp hp hk0 hqs rows (by omega) (looks_in h0) (by rw [hrw]; exact rowsA_mem h0 s hso) hl.2.2.1 h0 hk5 (by omega) c.gates.length 0 [] (by omega) (by rw [he, fltV, hrw, show i = (usN k).toNat by omega]; rfl)) ⟨HE.refl _, ⟨rfl, rfl, rfl, fun k hk => by simp at hk⟩, HE.refl _, HE.refl _, HE.refl _, HE.refl _, HE.refl _, HE.refl _, HE.refl _, HE.refl _, HE.refl _, HE.refl _, HE.refl _, HE.refl _, HE.refl _, HE.refl _, HE.refl _, HE.refl _, HE.refl _, HE.refl _, HE.refl _, HE.refl _, trivial⟩)
  | d + 1, i, rows, hd, hrw => by
    have hu := usN_le hk5
    have hrl : rows.length = i := by rw [hrw, rowsA_ok]
    have hn := hc.n.2
    refine FOk.rnd (run_sound hm 60 ((fa0 c s so k qs rows rows.length (usN k) i (d + 1) _ _).mpr ⟨?_⟩))
    rw [cond_dec, if_pos (by omega), wrap_inc _ (by omega)]
    refine lFk_mk c hc s hs so k hk0 qs hqs (And.intro (fun _ => by omega) ?_)
    exact FOk.cv (fa0_loop c hc s hs so k qs fin hf Q hq hcp hp hk0 hqs h0 hso hk5 he hqq d (i + 1) (rows ++ [rowV c s so k qs (i : Int)]) (by omega) (by rw [hrw, hqq, rowsA_succ])) ⟨⟨rfl, rfl, (by rw [List.length_append]; rfl), cT_snoc _ rfl⟩, HE.refl _, HE.refl _, HE.refl _, HE.refl _, HE.refl _, HE.refl _, HE.refl _, HE.refl _, HE.refl _, HE.refl _, HE.refl _, HE.refl _, HE.refl _, HE.refl _, HE.refl _, HE.refl _, HE.refl _, HE.refl _, HE.refl _, HE.refl _, trivial⟩
theorem bFlt : Tryz.f25.body.isSome = true := by kernel_rfl
theorem nFlt (c : Cir) (so k : Int) : Nat.ble ([.v (.int .i64 so), .agg [.v (.int .i64 c.fx), .v (.int .i64 c.ad), .v (.int .i64 c.ins), .x 0 [], .x 1 [], .x 2 [], .x 3 []], .v (.int .i64 k), .agg [.x 4 [], .x 5 [], .x 6 [], .x 7 []]] : List SV).length Tryz.f25.ntmps = true := by kernel_rfl
theorem flt_ok (c : Cir) (hc : c.ok) (s : Sht) (hs : s.ok) (so k : Int) (Q : SV → List HO → Prop) (hq : Q (.tup [.o 0, .v (.int .i64 (fltR c s so k).2)]) [.rowc 111 3 (fltR c s so k).1.length (.fn (cQ (fltR c s so k).1))]) : FnOk Tryz.prog 25 [.v (.int .i64 so), .agg [.v (.int .i64 c.fx), .v (.int .i64 c.ad), .v (.int .i64 c.ins), .x 0 [], .x 1 [], .x 2 [], .x 3 []], .v (.int .i64 k), .agg [.x 4 [], .x 5 [], .x 6 [], .x 7 []]] [.ext false (.s false 7 c.nodes.length (cN c.nodes)), .ext false (.s false 1 c.gates.length (cI c.gates)), .ext false (.s false 2 c.looks.length (cL c.looks)), .ext false (.s false 2 c.eqs.length (cK c.eqs)), .ext false (.s false 1 s.fx.length (cT s.fx)), .ext false (.s false 1 s.ad.length (cT s.ad)), .ext false (.s false 1 s.is.length (cT s.is)), .ext false (.s false 4 s.cp.length (cP s.cp))] Q := by
  refine FnOk.mono (FnOk.eqv (r0 := .tup [.o 0, .v (.int .i64 (fltR c s so k).2)]) (h0 := [.rowc 111 3 (fltR c s so k).1.length (.fn (cQ (fltR c s so k).1))]) ?_) (fun r h' hh => by rw [hh.1, hh.2]; exact hq)
  refine FnOk.nilT 111 3 (fn_of_ok Tryz.func25 bFlt ?_ ?_)
  · exact nFlt c so k
  refine run_sound hm 60 ((fltS c s so k _ _).mpr ⟨?_⟩)
  have bad : ∀ e : Int, fltR c s so k = ([], e) → (fun r h' => (r = SV.tup [.o 0, .v (.int .i64 (fltR c s so k).2)] ∧ HEs h' [.rowc 111 3 (fltR c s so k).1.length (.fn (cQ (fltR c s so k).1))]) ∨ (∃ y, r = .tup [.v (.slice none 0 0), .v y] ∧ h' = [] ∧ (SV.tup [.o 0, .v y] = SV.tup [.o 0, .v (.int .i64 (fltR c s so k).2)] ∧ HEs [HO.rowc 111 3 0 (.lit 1 [])] [.rowc 111 3 (fltR c s so k).1.length (.fn (cQ (fltR c s so k).1))]))) (SV.tup [SV.v (Value.slice none 0 0), SV.v (vi64 e)]) [] := fun e he => by
    rw [he]
    exact .inr ⟨_, rfl, rfl, rfl, ⟨rfl, rfl, rfl, fun k hk => by omega⟩, trivial⟩
  rw [cond_not, cond_beq]
  refine And.intro (fun _ => by omega) (ite_intro (fun h0 => ?_) (fun h0 => ?_))
  · refine lF_mk c hc s hs ?_
    rw [cond_not, cond_beq]
    refine ite_intro (fun h1 => ?_) (fun h1 => ?_)
    · obtain ⟨hk0, hk3, hk5, _⟩ := fitV_zero h1
      obtain ⟨hp, hcp⟩ := cps_in h1
      have hl := chkC_len hk0
      have hl2 := qsN_len c.nodes []
      rw [List.length_nil] at hl2
      refine ⟨c.nodes, rfl, IsC.refl _ _ _, by omega, ?_⟩
      have e : fltR c s so k = (fltV c s so k, 0) := by rw [fltR, if_neg (fun h => h h0), if_neg (fun h => h h1)]
      rw [e]
      exact FOk.loop ((usN k).toNat + 1) (by kernel_rfl) (FOk.cv (fa0_loop c hc s hs so k (qsN [] c.nodes) (fltV c s so k) (fltV_len hk0 hk5 hp) _ (.inl ⟨rfl, HEs.refl _⟩) hcp hp (by omega) (by omega) hk0 h0 hk5 rfl rfl (usN k).toNat 0 [] (by omega) rfl) ⟨⟨rfl, rfl, rfl, fun k hk => by simp at hk⟩, HE.refl _, HE.refl _, HE.refl _, HE.refl _, HE.refl _, HE.refl _, HE.refl _, HE.refl _, HE.refl _, HE.refl _, HE.refl _, HE.refl _, HE.refl _, HE.refl _, HE.refl _, HE.refl _, HE.refl _, HE.refl _, HE.refl _, HE.refl _, trivial⟩)
    · rw [cond_not, cond_beq, if_neg h1]
      exact bad _ (by rw [fltR, if_neg (fun h => h h0), if_pos h1])
  · rw [cond_not, cond_beq, if_neg h0]
    exact bad _ (by rw [fltR, if_pos h0])
noncomputable def gFlt : List SV → List HO → Option ((SV → List HO → Prop) → Prop)
  | [.v (.int .i64 so), .agg [.v (.int .i64 fx), .v (.int .i64 ad), .v (.int .i64 ins), .x 0 [], .x 1 [], .x 2 [], .x 3 []], .v (.int .i64 k), .agg [.x 4 [], .x 5 [], .x 6 [], .x 7 []]], [.ext false (.s false 7 n0 c0), .ext false (.s false 1 n1 c1), .ext false (.s false 2 n2 c2), .ext false (.s false 2 n3 c3), .ext false (.s false 1 m0 d0), .ext false (.s false 1 m1 d1), .ext false (.s false 1 m2 d2), .ext false (.s false 4 m3 d3)] =>
    some fun Q => lF fx ad ins n0 n1 n2 n3 m0 m1 m2 m3 c0 c1 c2 c3 d0 d1 d2 d3 fun c s => Q (.tup [.o 0, .v (.int .i64 (fltR c s so k).2)]) [.rowc 111 3 (fltR c s so k).1.length (.fn (cQ (fltR c s so k).1))]
  | _, _ => none
theorem gFlt_ok (args : List SV) (h : List HO) (tr : (SV → List HO → Prop) → Prop) (Q : SV → List HO → Prop) (hc : gFlt args h = some tr) (ht : tr Q) : FnOk Tryz.prog 25 args h Q := by
  unfold gFlt at hc
  split at hc
  · simp only [Option.some.injEq] at hc
    subst hc
    obtain ⟨c, rfl, rfl, rfl, ⟨rfl, e0⟩, ⟨rfl, e1⟩, ⟨rfl, e2⟩, ⟨rfl, e3⟩, hk, ht2⟩ := ht.h.h
    obtain ⟨s, ⟨rfl, e4⟩, ⟨rfl, e5⟩, ⟨rfl, e6⟩, ⟨rfl, e7⟩, hs, hq⟩ := ht2.h
    exact FnOk.ac (flt_ok c hk s hs _ _ Q hq) ⟨⟨rfl, rfl, rfl, rfl, e0⟩, ⟨rfl, rfl, rfl, rfl, e1⟩, ⟨rfl, rfl, rfl, rfl, e2⟩, ⟨rfl, rfl, rfl, rfl, e3⟩, ⟨rfl, rfl, rfl, rfl, e4⟩, ⟨rfl, rfl, rfl, rfl, e5⟩, ⟨rfl, rfl, rfl, rfl, e6⟩, ⟨rfl, rfl, rfl, rfl, e7⟩, trivial⟩
  · cases hc
noncomputable def K80 : Con Tryz.prog := K79.add 25 gFlt gFlt_ok
end Go.Proofs.YtlmjdcbhpffanaaGreat
/- An argument that is a nil slice, told as an empty frozen memory. -/
namespace Go.Sx
open Go.RowKit
end Go.Sx
/- A row of one's own is given up; what refers to it in other objects is told anew. -/
namespace Go.Sx
open Go.RowKit
def frzO (i n : Nat) : HO → HO
  | .cells xs T => .cells (frzL i n xs) T
  | .row T sz k xs => .row T sz k (frzL i n xs)
  | x => x
theorem FOk.frzH {P : Program} {m : Nat} {fn : Func} {Q : SV → List HO → Prop} {k : List It} {tm : List (Nat × SV)} {h : List HO} (i : Nat) {T : TypeId} {sz n : Nat} {c : Ct} (hi : h[i]? = some (.rowc T sz n c))
    (hk : FOkM P m fn Q k ⟨frzT i h.length tm, (h.set i .gone ++ [HO.ext false (Cell.s false sz n c.at)]).map (frzO i h.length)⟩) : FOkM P m fn Q k ⟨tm, h⟩ := by
  intro F hF w0 hw0 e a w S T0
  have hlt := (List.getElem?_eq_some_iff.1 hi).1
  obtain ⟨S1, hle⟩ := S.drop hF i hlt
  obtain ⟨vals, h1, _, h2⟩ := S.sat i _ hi
  obtain ⟨f, f1, f2, f3⟩ := S.frozen hi rfl h1 hle h2
  have S2 := S1.newExt hF false (.s false sz n c.at) f f1 (by simpa using f3)
  rw [List.length_set] at S2
  have hag := agree_setV e h.length f f1
  have hv : (e.setV h.length f f1).val h.length [] = (e.setV h.length f f1).row i := by
    have : (e.setV h.length f f1).val h.length = f := by simp [Env.setV]
    rw [this, f2]; rfl
  have hl : (h.set i HO.gone ++ [HO.ext false (.s false sz n c.at)]).length = h.length + 1 := by simp
  have S3 := S2.conv hF (h' := (h.set i HO.gone ++ [HO.ext false (.s false sz n c.at)]).map (frzO i h.length)) (by rw [List.length_map]) (fun j x' hx' => by
    rw [List.getElem?_map] at hx'
    obtain ⟨x, hx, rfl⟩ := Option.map_eq_some_iff.1 hx'
    refine ⟨x, hx, ?_, ?_, ?_⟩
    · cases x <;> rfl
    · cases x with
      | cells xs T => intro hs; simp only [frzO, HO.sat, denL_frz i _ _ hv] at hs ⊢; exact hs
      | row T sz k xs => intro hs; simp only [frzO, HO.sat, denL_frz i _ _ hv] at hs ⊢; exact hs
      | _ => exact fun hs => hs
    · cases x with
      | cells xs T => exact fun hs => wsL_frz i h.length _ (by rw [hl]; exact Nat.lt_succ_self _) xs hs
      | row T sz k xs => exact fun hs => wsL_frz i h.length _ (by rw [hl]; exact Nat.lt_succ_self _) xs hs
      | _ => exact fun hs => hs)
  refine hk F hF w0 hw0 _ a w S3 ⟨T0.size, T0.defers, fun t s hs => ?_, fun t s hs => ?_⟩
  · obtain ⟨s0, q1, rfl⟩ := lk_frzT i _ tm hs
    rw [den_frz i _ _ hv, T0.get t s0 q1, den_agree hag s0 (T0.wsc t s0 q1)]
  · obtain ⟨s0, q1, rfl⟩ := lk_frzT i _ tm hs
    show ws ((h.set i HO.gone ++ [HO.ext false (.s false sz n c.at)]).map (frzO i h.length)).length _
    rw [List.length_map, hl]
    exact ws_frz i _ _ (Nat.lt_succ_self _) s0 (ws_mono (Nat.le_succ _) s0 (T0.wsc t s0 q1))
theorem FOk.nilA {P : Program} {m : Nat} {fn : Func} {Q : SV → List HO → Prop} {k : List It} {tm : List (Nat × SV)} {h : List HO} (t j sz : Nat) (c : Nat → Nat → Cell) {cs : List SV} (ht : lk tm t = some (.agg cs)) (hj : cs[j]? = some (.v (.slice none 0 0)))
    (hk : FOkM P m fn Q k ⟨(t, .agg (cs.set j (.x h.length []))) :: del tm t, h ++ [HO.ext false (Cell.s false sz 0 c)]⟩) : FOkM P m fn Q k ⟨tm, h⟩ := by
  intro F hF w0 hw0 e a w S T0
  have S2 := S.newExt hF false (.s false sz 0 c) (fun _ => .slice none 0 0) (fun _ => rfl) ⟨none, ⟨0, rfl, Nat.le_refl _⟩, .inl rfl⟩
  have hag := agree_setV e h.length (fun _ => .slice none 0 0) (fun _ => rfl)
  have hl : (h ++ [HO.ext false (Cell.s false sz 0 c)]).length = h.length + 1 := by simp
  have hws : wsL h.length cs := T0.wsc t _ ht
  have hden : ∀ (l : List SV) (j : Nat), l[j]? = some (.v (.slice none 0 0)) → wsL h.length l → denL (e.setV h.length (fun _ => .slice none 0 0) (fun _ => rfl)) (l.set j (.x h.length [])) = denL e l := by
    intro l
    induction l with
    | nil => intro j hj _; cases hj
    | cons x r ih =>
      intro j hj hw
      cases j with
      | zero =>
        simp only [List.getElem?_cons_zero, Option.some.injEq] at hj
        subst hj
        simp only [List.set_cons_zero, denL, den]
        rw [denL_agree hag r hw.2]
        simp [Env.setV]
      | succ j =>
        simp only [List.set_cons_succ, denL]
        rw [ih j hj hw.2, den_agree hag x hw.1]
  have hwset : ∀ (l : List SV) (j : Nat), wsL h.length l → wsL (h.length + 1) (l.set j (.x h.length [])) := by
    intro l
    induction l with
    | nil => intro j _; exact trivial
    | cons x r ih =>
      intro j hw
      cases j with
      | zero => exact ⟨Nat.lt_succ_self _, wsL_mono (Nat.le_succ _) r hw.2⟩
      | succ j => exact ⟨ws_mono (Nat.le_succ _) x hw.1, ih j hw.2⟩
  refine hk F hF w0 hw0 _ a w S2 ⟨T0.size, T0.defers, fun t2 s hs => ?_, fun t2 s hs => ?_⟩
  · simp only [lk] at hs
    cases hb : Nat.beq t t2 with
    | true =>
      rw [hb] at hs
      simp only [cond_true, Option.some.injEq] at hs
      subst hs
      rw [← Nat.eq_of_beq_eq_true hb]
      refine (T0.get t _ ht).trans (congrArg some ?_)
      have e1 : den (e.setV h.length (fun _ => .slice none 0 0) (fun _ => rfl)) (.agg (cs.set j (.x h.length []))) = .agg (denL (e.setV h.length (fun _ => .slice none 0 0) (fun _ => rfl)) (cs.set j (.x h.length []))).toArray := by rw [den]
      rw [hden cs j hj hws] at e1
      rw [den]
      exact e1.symm
    | false =>
      rw [hb] at hs
      rw [cond_false, lk_del_ne tm t t2 (fun h => by rw [h, Nat.beq_refl] at hb; cases hb)] at hs
      exact (T0.get t2 s hs).trans (congrArg some (den_agree hag s (T0.wsc t2 s hs)).symm)
  · rw [hl]
    simp only [lk] at hs
    cases hb : Nat.beq t t2 with
    | true =>
      rw [hb] at hs
      simp only [cond_true, Option.some.injEq] at hs
      subst hs
      exact hwset cs j hws
    | false =>
      rw [hb] at hs
      rw [cond_false, lk_del_ne tm t t2 (fun h => by rw [h, Nat.beq_refl] at hb; cases hb)] at hs
      exact ws_mono (Nat.le_succ _) s (T0.wsc t2 s hs)
end Go.Sx
