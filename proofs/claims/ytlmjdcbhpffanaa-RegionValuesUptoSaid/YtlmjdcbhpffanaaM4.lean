/- The texts Z123b .. Z139 of this proof, one behind the other. -/
import Derived.Test.YtlmjdcbhpffanaaM3
import Derived.Test.YtlmjdcbhpffanaaM2
/- Layout: puts. -/
namespace Go.Proofs.Ytlmjdcbhpffanaa
open Go.Sx Go.Pl
set_option linter.unusedVariables false
set_option maxRecDepth 100000
theorem zYk(c:Cir)(p:Pln)(k:Int)(gF gA:Nat→Nat×(Nat→Nat→qB))(nF nA:Nat)(u s:Int)(ls:List (List Nat))(kl:List (List Int))(ml ss:List Int)(l:List Nat)(cf n m ms i j M2 M:Nat)(K:List It→St→Prop)(R:SV→List HO→Prop):W (xwp Try.prog X qMn [] 60 (qO Try.f16 [] [⟨[0,1,0,1,1,1,1],[49,48,47,11,10,6,5,3],[]⟩,⟨[0,1,0,1,1,1,1,1],[64,63,62,11,10,6,5,3],[]⟩,⟨[0,1,0,1,1,1,1,1,1,1,1,1],[93,92,91,18,17,16,11,10,6,5,3],[]⟩,⟨[0,1,1,1,1,1,0,0,1,1,0,0,1,0,1,1,1,1,1,1,1,1,1],[114,113,112,21,93,92,91,18,17,16,11,10,6,5,3],[]⟩,⟨[0,1,0,1,1,1,1,1,1,1,1,1,1,1],[144,143,142,26,18,11,6,5,3],[]⟩]) [.ld (.o 9)] (.at [0,0,1,1,1,1,1,0,0,1,1,0,0,1,0,1,1,1,1,1,1,1,1,1]::.rnd [0,0,1,1,1,1,1,0,0,1,1,0,0,1,0,1,1,1,1,1,1,1,1,1] M::[.blk 6,.blk 5,.at [1,1,1,0,0,1,0,1,1,1,1,1,1,1,1,1],.rnd [0,0,1,0,1,1,1,1,1,1,1,1,1] M2,.blk 4,.at [1,1,1,1,1,1,1,1,1,1]]) (St.mk [(114,SV.v (qA (j:Int))),(113,SV.v (qA (↑(List.length (gRg p.1 i).2):Int))),(112,SV.x 0 [(2,i,1)]),(21,SV.v (qA s)),(93,SV.v (qA (↑i:Int))),(92,SV.v (qA (↑p.1.length:Int))),(91,SV.x 0 []),(18,SV.p 1 0),(17,SV.m 2),(16,SV.m 3),(11,SV.p 4 0),(10,SV.v (qA u)),(6,SV.p 5 0),(5,SV.p 6 0),(3,SV.p 7 0)] [HO.ext false (qB.s false 2 p.1.length (cRg p.1)),HO.cells [SV.o 8] 23,HO.mp true [IntKind.i64,IntKind.i64] kl (Mc.ints IntKind.u64 ml),HO.mp false [IntKind.i64] [[(2:Int)],[(3:Int)]] (Mc.svs [SV.o 9,SV.o 10]),HO.cells [SV.o 9,SV.o 10,SV.o 11,SV.o 12] 49,HO.cells [SV.v (Value.slice none 0 0),SV.v (Value.slice none 0 0),SV.v (Value.slice none 0 0),SV.v (Value.slice none 0 0)] 49,HO.cells [SV.x 0 [],SV.x 13 [],SV.x 14 [],SV.x 15 []] 33,HO.cells [SV.v (qA c.1),SV.v (qA c.2),SV.v (qA c.3),SV.x 16 [],SV.x 17 [],SV.x 18 [],SV.x 19 []] 27,HO.rowc 3 1 ms (Ct.fn (cI ss)),HO.tbl 44 56 4 nF gF (some (cf,20)),HO.tbl 44 56 4 nA gA none,HO.rowc 44 1 m (Ct.fn (cT ls)),HO.rowc 103 4 0 (Ct.lit 1 []),HO.ext false (qB.s false 2 p.2.length (cTa p.2)),HO.ext false (qB.s false 6 p.3.length (cLk p.3)),HO.ext false (qB.s false 1 p.4.length (cT p.4)),HO.ext false (qB.s false 7 c.4.length (cN c.4)),HO.ext false (qB.s false 1 c.5.length (cI c.5)),HO.ext false (qB.s false 2 c.6.length (cL c.6)),HO.ext false (qB.s false 2 c.7.length (cK c.7)),HO.rowc 56 4 n (Ct.fn (cE l))]) K R)=W (bif decide ((↑j:Int)<(↑(List.length (gRg p.1 i).2):Int)) then((∀ M:Mem,i<List.length p.1)∧(∀ M:Mem,(0:Int)≤(↑j:Int)∧(↑j:Int)<(↑(List.length (gRg p.1 i).2):Int))∧(∀ M:Mem,i<List.length p.1)∧(∀ M:Mem,j<List.length (gRg p.1 i).2)∧(∀ M:Mem,0+7≤7)∧(∀ M:Mem,(match decide ([(gPt (gRg p.1 i).2 j).1]=[(2:Int)]) with | true=>some (SV.o 9) | false=>match decide ([(gPt (gRg p.1 i).2 j).1]=[(3:Int)]) with | true=>some (SV.o 10) | false=>none)=some (SV.o 9))∧(∀ M:Mem,(0:Int)≤(gPt (gRg p.1 i).2 j).2∧(gPt (gRg p.1 i).2 j).2<(↑nF:Int))∧(∀ M:Mem,Int.toNat (gPt (gRg p.1 i).2 j).2<nF)∧(∀ M:Mem,Int.toNat (gPt (gRg p.1 i).2 j).2=cf)∧lSe n (cE l) (IntKind.wrap .i64 (s+(gPt (gRg p.1 i).2 j).3)) (eI (gPt (gRg p.1 i).2 j).4) (fun(l:List Nat) (v:Nat)=>(∀ M:Mem,(0:Int)≤(gPt (gRg p.1 i).2 j).2∧(gPt (gRg p.1 i).2 j).2<(↑nF:Int))∧(∀ M:Mem,Int.toNat (gPt (gRg p.1 i).2 j).2<nF)∧(∀ M:Mem,Int.toNat (gPt (gRg p.1 i).2 j).2=cf)∧K [It.rnd [0,0,1,1,1,1,1,0,0,1,1,0,0,1,0,1,1,1,1,1,1,1,1,1] M,It.blk 6,It.blk 5,It.at [1,1,1,0,0,1,0,1,1,1,1,1,1,1,1,1],It.rnd [0,0,1,0,1,1,1,1,1,1,1,1,1] M2,It.blk 4,It.at [1,1,1,1,1,1,1,1,1,1]] (St.mk [(114,SV.v (qA (IntKind.wrap .i64 ((↑j:Int)+(1:Int))))),(113,SV.v (qA (↑(List.length (gRg p.1 i).2):Int))),(112,SV.x 0 [(2,i,1)]),(21,SV.v (qA s)),(93,SV.v (qA (↑i:Int))),(92,SV.v (qA (↑p.1.length:Int))),(91,SV.x 0 []),(18,SV.p 1 0),(17,SV.m 2),(16,SV.m 3),(11,SV.p 4 0),(10,SV.v (qA u)),(6,SV.p 5 0),(5,SV.p 6 0),(3,SV.p 7 0)] [HO.ext false (qB.s false 2 p.1.length (cRg p.1)),HO.cells [SV.o 8] 23,HO.mp true [IntKind.i64,IntKind.i64] kl (Mc.ints IntKind.u64 ml),HO.mp false [IntKind.i64] [[(2:Int)],[(3:Int)]] (Mc.svs [SV.o 9,SV.o 10]),HO.cells [SV.o 9,SV.o 10,SV.o 11,SV.o 12] 49,HO.cells [SV.v (Value.slice none 0 0),SV.v (Value.slice none 0 0),SV.v (Value.slice none 0 0),SV.v (Value.slice none 0 0)] 49,HO.cells [SV.x 0 [],SV.x 13 [],SV.x 14 [],SV.x 15 []] 33,HO.cells [SV.v (qA c.1),SV.v (qA c.2),SV.v (qA c.3),SV.x 16 [],SV.x 17 [],SV.x 18 [],SV.x 19 []] 27,HO.rowc 3 1 ms (Ct.fn (cI ss)),HO.tbl 44 56 4 nF gF (some (Int.toNat (gPt (gRg p.1 i).2 j).2,20)),HO.tbl 44 56 4 nA gA none,HO.rowc 44 1 m (Ct.fn (cT ls)),HO.rowc 103 4 0 (Ct.lit 1 []),HO.ext false (qB.s false 2 p.2.length (cTa p.2)),HO.ext false (qB.s false 6 p.3.length (cLk p.3)),HO.ext false (qB.s false 1 p.4.length (cT p.4)),HO.ext false (qB.s false 7 c.4.length (cN c.4)),HO.ext false (qB.s false 1 c.5.length (cI c.5)),HO.ext false (qB.s false 2 c.6.length (cL c.6)),HO.ext false (qB.s false 2 c.7.length (cK c.7)),HO.rowc 56 4 (List.length (zO l (Int.toNat (IntKind.wrap .i64 (s+(gPt (gRg p.1 i).2 j).3))) v)) (Ct.fn (cE (zO l (Int.toNat (IntKind.wrap .i64 (s+(gPt (gRg p.1 i).2 j).3))) v)))])) fun(l:List Nat) (v:Nat)=>(∀ M:Mem,(0:Int)≤(gPt (gRg p.1 i).2 j).2∧(gPt (gRg p.1 i).2 j).2<(↑nF:Int))∧(∀ M:Mem,Int.toNat (gPt (gRg p.1 i).2 j).2<nF)∧(∀ M:Mem,Int.toNat (gPt (gRg p.1 i).2 j).2=cf)∧K [It.rnd [0,0,1,1,1,1,1,0,0,1,1,0,0,1,0,1,1,1,1,1,1,1,1,1] M,It.blk 6,It.blk 5,It.at [1,1,1,0,0,1,0,1,1,1,1,1,1,1,1,1],It.rnd [0,0,1,0,1,1,1,1,1,1,1,1,1] M2,It.blk 4,It.at [1,1,1,1,1,1,1,1,1,1]] (St.mk [(114,SV.v (qA (IntKind.wrap .i64 ((↑j:Int)+(1:Int))))),(113,SV.v (qA (↑(List.length (gRg p.1 i).2):Int))),(112,SV.x 0 [(2,i,1)]),(21,SV.v (qA s)),(93,SV.v (qA (↑i:Int))),(92,SV.v (qA (↑p.1.length:Int))),(91,SV.x 0 []),(18,SV.p 1 0),(17,SV.m 2),(16,SV.m 3),(11,SV.p 4 0),(10,SV.v (qA u)),(6,SV.p 5 0),(5,SV.p 6 0),(3,SV.p 7 0)] [HO.ext false (qB.s false 2 p.1.length (cRg p.1)),HO.cells [SV.o 8] 23,HO.mp true [IntKind.i64,IntKind.i64] kl (Mc.ints IntKind.u64 ml),HO.mp false [IntKind.i64] [[(2:Int)],[(3:Int)]] (Mc.svs [SV.o 9,SV.o 10]),HO.cells [SV.o 9,SV.o 10,SV.o 11,SV.o 12] 49,HO.cells [SV.v (Value.slice none 0 0),SV.v (Value.slice none 0 0),SV.v (Value.slice none 0 0),SV.v (Value.slice none 0 0)] 49,HO.cells [SV.x 0 [],SV.x 13 [],SV.x 14 [],SV.x 15 []] 33,HO.cells [SV.v (qA c.1),SV.v (qA c.2),SV.v (qA c.3),SV.x 16 [],SV.x 17 [],SV.x 18 [],SV.x 19 []] 27,HO.rowc 3 1 ms (Ct.fn (cI ss)),HO.tbl 44 56 4 nF gF (some (Int.toNat (gPt (gRg p.1 i).2 j).2,20)),HO.tbl 44 56 4 nA gA none,HO.rowc 44 1 m (Ct.fn (cT ls)),HO.rowc 103 4 0 (Ct.lit 1 []),HO.ext false (qB.s false 2 p.2.length (cTa p.2)),HO.ext false (qB.s false 6 p.3.length (cLk p.3)),HO.ext false (qB.s false 1 p.4.length (cT p.4)),HO.ext false (qB.s false 7 c.4.length (cN c.4)),HO.ext false (qB.s false 1 c.5.length (cI c.5)),HO.ext false (qB.s false 2 c.6.length (cL c.6)),HO.ext false (qB.s false 2 c.7.length (cK c.7)),HO.rowc 56 4 (List.length (zO l (Int.toNat (IntKind.wrap .i64 (s+(gPt (gRg p.1 i).2 j).3))) v)) (Ct.fn (cE (zO l (Int.toNat (IntKind.wrap .i64 (s+(gPt (gRg p.1 i).2 j).3))) v)))]))∧(∀ M:Mem,i<List.length p.1)∧(∀ M:Mem,(0:Int)≤(↑j:Int)∧(↑j:Int)<(↑(List.length (gRg p.1 i).2):Int))∧(∀ M:Mem,i<List.length p.1)∧(∀ M:Mem,j<List.length (gRg p.1 i).2)∧(∀ M:Mem,0+7≤7)∧(∀ M:Mem,(match decide ([(gPt (gRg p.1 i).2 j).1]=[(2:Int)]) with | true=>some (SV.o 9) | false=>match decide ([(gPt (gRg p.1 i).2 j).1]=[(3:Int)]) with | true=>some (SV.o 10) | false=>none)=some (SV.o 9))∧(∀ M:Mem,(0:Int)≤(gPt (gRg p.1 i).2 j).2∧(gPt (gRg p.1 i).2 j).2<(↑nF:Int))∧(∀ M:Mem,Int.toNat (gPt (gRg p.1 i).2 j).2<nF)∧(∀ M:Mem,Int.toNat (gPt (gRg p.1 i).2 j).2=cf)∧lSe n (cE l) (IntKind.wrap .i64 (s+(gPt (gRg p.1 i).2 j).3)) (eI (gPt (gRg p.1 i).2 j).4) (fun(l:List Nat) (v:Nat)=>(∀ M:Mem,(0:Int)≤(gPt (gRg p.1 i).2 j).2∧(gPt (gRg p.1 i).2 j).2<(↑nF:Int))∧(∀ M:Mem,Int.toNat (gPt (gRg p.1 i).2 j).2<nF)∧(∀ M:Mem,Int.toNat (gPt (gRg p.1 i).2 j).2=cf)∧K [It.rnd [0,0,1,1,1,1,1,0,0,1,1,0,0,1,0,1,1,1,1,1,1,1,1,1] M,It.blk 6,It.blk 5,It.at [1,1,1,0,0,1,0,1,1,1,1,1,1,1,1,1],It.rnd [0,0,1,0,1,1,1,1,1,1,1,1,1] M2,It.blk 4,It.at [1,1,1,1,1,1,1,1,1,1]] (St.mk [(114,SV.v (qA (IntKind.wrap .i64 ((↑j:Int)+(1:Int))))),(113,SV.v (qA (↑(List.length (gRg p.1 i).2):Int))),(112,SV.x 0 [(2,i,1)]),(21,SV.v (qA s)),(93,SV.v (qA (↑i:Int))),(92,SV.v (qA (↑p.1.length:Int))),(91,SV.x 0 []),(18,SV.p 1 0),(17,SV.m 2),(16,SV.m 3),(11,SV.p 4 0),(10,SV.v (qA u)),(6,SV.p 5 0),(5,SV.p 6 0),(3,SV.p 7 0)] [HO.ext false (qB.s false 2 p.1.length (cRg p.1)),HO.cells [SV.o 8] 23,HO.mp true [IntKind.i64,IntKind.i64] kl (Mc.ints IntKind.u64 ml),HO.mp false [IntKind.i64] [[(2:Int)],[(3:Int)]] (Mc.svs [SV.o 9,SV.o 10]),HO.cells [SV.o 9,SV.o 10,SV.o 11,SV.o 12] 49,HO.cells [SV.v (Value.slice none 0 0),SV.v (Value.slice none 0 0),SV.v (Value.slice none 0 0),SV.v (Value.slice none 0 0)] 49,HO.cells [SV.x 0 [],SV.x 13 [],SV.x 14 [],SV.x 15 []] 33,HO.cells [SV.v (qA c.1),SV.v (qA c.2),SV.v (qA c.3),SV.x 16 [],SV.x 17 [],SV.x 18 [],SV.x 19 []] 27,HO.rowc 3 1 ms (Ct.fn (cI ss)),HO.tbl 44 56 4 nF gF (some (Int.toNat (gPt (gRg p.1 i).2 j).2,20)),HO.tbl 44 56 4 nA gA none,HO.rowc 44 1 m (Ct.fn (cT ls)),HO.rowc 103 4 0 (Ct.lit 1 []),HO.ext false (qB.s false 2 p.2.length (cTa p.2)),HO.ext false (qB.s false 6 p.3.length (cLk p.3)),HO.ext false (qB.s false 1 p.4.length (cT p.4)),HO.ext false (qB.s false 7 c.4.length (cN c.4)),HO.ext false (qB.s false 1 c.5.length (cI c.5)),HO.ext false (qB.s false 2 c.6.length (cL c.6)),HO.ext false (qB.s false 2 c.7.length (cK c.7)),HO.rowc 56 4 (List.length (zO l (Int.toNat (IntKind.wrap .i64 (s+(gPt (gRg p.1 i).2 j).3))) v)) (Ct.fn (cE (zO l (Int.toNat (IntKind.wrap .i64 (s+(gPt (gRg p.1 i).2 j).3))) v)))])) fun(l:List Nat) (v:Nat)=>(∀ M:Mem,(0:Int)≤(gPt (gRg p.1 i).2 j).2∧(gPt (gRg p.1 i).2 j).2<(↑nF:Int))∧(∀ M:Mem,Int.toNat (gPt (gRg p.1 i).2 j).2<nF)∧(∀ M:Mem,Int.toNat (gPt (gRg p.1 i).2 j).2=cf)∧K [It.rnd [0,0,1,1,1,1,1,0,0,1,1,0,0,1,0,1,1,1,1,1,1,1,1,1] M,It.blk 6,It.blk 5,It.at [1,1,1,0,0,1,0,1,1,1,1,1,1,1,1,1],It.rnd [0,0,1,0,1,1,1,1,1,1,1,1,1] M2,It.blk 4,It.at [1,1,1,1,1,1,1,1,1,1]] (St.mk [(114,SV.v (qA (IntKind.wrap .i64 ((↑j:Int)+(1:Int))))),(113,SV.v (qA (↑(List.length (gRg p.1 i).2):Int))),(112,SV.x 0 [(2,i,1)]),(21,SV.v (qA s)),(93,SV.v (qA (↑i:Int))),(92,SV.v (qA (↑p.1.length:Int))),(91,SV.x 0 []),(18,SV.p 1 0),(17,SV.m 2),(16,SV.m 3),(11,SV.p 4 0),(10,SV.v (qA u)),(6,SV.p 5 0),(5,SV.p 6 0),(3,SV.p 7 0)] [HO.ext false (qB.s false 2 p.1.length (cRg p.1)),HO.cells [SV.o 8] 23,HO.mp true [IntKind.i64,IntKind.i64] kl (Mc.ints IntKind.u64 ml),HO.mp false [IntKind.i64] [[(2:Int)],[(3:Int)]] (Mc.svs [SV.o 9,SV.o 10]),HO.cells [SV.o 9,SV.o 10,SV.o 11,SV.o 12] 49,HO.cells [SV.v (Value.slice none 0 0),SV.v (Value.slice none 0 0),SV.v (Value.slice none 0 0),SV.v (Value.slice none 0 0)] 49,HO.cells [SV.x 0 [],SV.x 13 [],SV.x 14 [],SV.x 15 []] 33,HO.cells [SV.v (qA c.1),SV.v (qA c.2),SV.v (qA c.3),SV.x 16 [],SV.x 17 [],SV.x 18 [],SV.x 19 []] 27,HO.rowc 3 1 ms (Ct.fn (cI ss)),HO.tbl 44 56 4 nF gF (some (Int.toNat (gPt (gRg p.1 i).2 j).2,20)),HO.tbl 44 56 4 nA gA none,HO.rowc 44 1 m (Ct.fn (cT ls)),HO.rowc 103 4 0 (Ct.lit 1 []),HO.ext false (qB.s false 2 p.2.length (cTa p.2)),HO.ext false (qB.s false 6 p.3.length (cLk p.3)),HO.ext false (qB.s false 1 p.4.length (cT p.4)),HO.ext false (qB.s false 7 c.4.length (cN c.4)),HO.ext false (qB.s false 1 c.5.length (cI c.5)),HO.ext false (qB.s false 2 c.6.length (cL c.6)),HO.ext false (qB.s false 2 c.7.length (cK c.7)),HO.rowc 56 4 (List.length (zO l (Int.toNat (IntKind.wrap .i64 (s+(gPt (gRg p.1 i).2 j).3))) v)) (Ct.fn (cE (zO l (Int.toNat (IntKind.wrap .i64 (s+(gPt (gRg p.1 i).2 j).3))) v)))]) else K [It.rnd [0,0,1,0,1,1,1,1,1,1,1,1,1] M2,It.blk 4,It.at [1,1,1,1,1,1,1,1,1,1]] (St.mk [(93,SV.v (qA (IntKind.wrap .i64 ((↑i:Int)+(1:Int))))),(92,SV.v (qA (↑p.1.length:Int))),(91,SV.x 0 []),(18,SV.p 1 0),(17,SV.m 2),(16,SV.m 3),(11,SV.p 4 0),(10,SV.v (qA u)),(6,SV.p 5 0),(5,SV.p 6 0),(3,SV.p 7 0)] [HO.ext false (qB.s false 2 p.1.length (cRg p.1)),HO.cells [SV.o 8] 23,HO.mp true [IntKind.i64,IntKind.i64] kl (Mc.ints IntKind.u64 ml),HO.mp false [IntKind.i64] [[(2:Int)],[(3:Int)]] (Mc.svs [SV.o 9,SV.o 10]),HO.cells [SV.o 9,SV.o 10,SV.o 11,SV.o 12] 49,HO.cells [SV.v (Value.slice none 0 0),SV.v (Value.slice none 0 0),SV.v (Value.slice none 0 0),SV.v (Value.slice none 0 0)] 49,HO.cells [SV.x 0 [],SV.x 13 [],SV.x 14 [],SV.x 15 []] 33,HO.cells [SV.v (qA c.1),SV.v (qA c.2),SV.v (qA c.3),SV.x 16 [],SV.x 17 [],SV.x 18 [],SV.x 19 []] 27,HO.rowc 3 1 ms (Ct.fn (cI ss)),HO.tbl 44 56 4 nF gF (some (cf,20)),HO.tbl 44 56 4 nA gA none,HO.rowc 44 1 m (Ct.fn (cT ls)),HO.rowc 103 4 0 (Ct.lit 1 []),HO.ext false (qB.s false 2 p.2.length (cTa p.2)),HO.ext false (qB.s false 6 p.3.length (cLk p.3)),HO.ext false (qB.s false 1 p.4.length (cT p.4)),HO.ext false (qB.s false 7 c.4.length (cN c.4)),HO.ext false (qB.s false 1 c.5.length (cI c.5)),HO.ext false (qB.s false 2 c.6.length (cL c.6)),HO.ext false (qB.s false 2 c.7.length (cK c.7)),HO.rowc 56 4 n (Ct.fn (cE l))])):=by kernel_rfl
theorem zZc(c:Cir)(p:Pln)(k:Int)(gF gA:Nat→Nat×(Nat→Nat→qB))(nF nA:Nat)(u s:Int)(ls:List (List Nat))(kl:List (List Int))(ml ss:List Int)(l:List Nat)(cf n m ms i j M2 M:Nat)(K:List It→St→Prop)(R:SV→List HO→Prop):W (xwp Try.prog X qMn [] 60 (qO Try.f16 [] [⟨[0,1,0,1,1,1,1],[49,48,47,11,10,6,5,3],[]⟩,⟨[0,1,0,1,1,1,1,1],[64,63,62,11,10,6,5,3],[]⟩,⟨[0,1,0,1,1,1,1,1,1,1,1,1],[93,92,91,18,17,16,11,10,6,5,3],[]⟩,⟨[0,1,1,1,1,1,0,0,1,1,0,0,1,0,1,1,1,1,1,1,1,1,1],[114,113,112,21,93,92,91,18,17,16,11,10,6,5,3],[]⟩,⟨[0,1,0,1,1,1,1,1,1,1,1,1,1,1],[144,143,142,26,18,11,6,5,3],[]⟩]) [.ld (.o 10)] (.at [0,0,1,1,1,1,1,0,0,1,1,0,0,1,0,1,1,1,1,1,1,1,1,1]::.rnd [0,0,1,1,1,1,1,0,0,1,1,0,0,1,0,1,1,1,1,1,1,1,1,1] M::[.blk 6,.blk 5,.at [1,1,1,0,0,1,0,1,1,1,1,1,1,1,1,1],.rnd [0,0,1,0,1,1,1,1,1,1,1,1,1] M2,.blk 4,.at [1,1,1,1,1,1,1,1,1,1]]) (St.mk [(114,SV.v (qA (j:Int))),(113,SV.v (qA (↑(List.length (gRg p.1 i).2):Int))),(112,SV.x 0 [(2,i,1)]),(21,SV.v (qA s)),(93,SV.v (qA (↑i:Int))),(92,SV.v (qA (↑p.1.length:Int))),(91,SV.x 0 []),(18,SV.p 1 0),(17,SV.m 2),(16,SV.m 3),(11,SV.p 4 0),(10,SV.v (qA u)),(6,SV.p 5 0),(5,SV.p 6 0),(3,SV.p 7 0)] [HO.ext false (qB.s false 2 p.1.length (cRg p.1)),HO.cells [SV.o 8] 23,HO.mp true [IntKind.i64,IntKind.i64] kl (Mc.ints IntKind.u64 ml),HO.mp false [IntKind.i64] [[(2:Int)],[(3:Int)]] (Mc.svs [SV.o 9,SV.o 10]),HO.cells [SV.o 9,SV.o 10,SV.o 11,SV.o 12] 49,HO.cells [SV.v (Value.slice none 0 0),SV.v (Value.slice none 0 0),SV.v (Value.slice none 0 0),SV.v (Value.slice none 0 0)] 49,HO.cells [SV.x 0 [],SV.x 13 [],SV.x 14 [],SV.x 15 []] 33,HO.cells [SV.v (qA c.1),SV.v (qA c.2),SV.v (qA c.3),SV.x 16 [],SV.x 17 [],SV.x 18 [],SV.x 19 []] 27,HO.rowc 3 1 ms (Ct.fn (cI ss)),HO.tbl 44 56 4 nF gF none,HO.tbl 44 56 4 nA gA (some (cf,20)),HO.rowc 44 1 m (Ct.fn (cT ls)),HO.rowc 103 4 0 (Ct.lit 1 []),HO.ext false (qB.s false 2 p.2.length (cTa p.2)),HO.ext false (qB.s false 6 p.3.length (cLk p.3)),HO.ext false (qB.s false 1 p.4.length (cT p.4)),HO.ext false (qB.s false 7 c.4.length (cN c.4)),HO.ext false (qB.s false 1 c.5.length (cI c.5)),HO.ext false (qB.s false 2 c.6.length (cL c.6)),HO.ext false (qB.s false 2 c.7.length (cK c.7)),HO.rowc 56 4 n (Ct.fn (cE l))]) K R)=W (bif decide ((↑j:Int)<(↑(List.length (gRg p.1 i).2):Int)) then((∀ M:Mem,i<List.length p.1)∧(∀ M:Mem,(0:Int)≤(↑j:Int)∧(↑j:Int)<(↑(List.length (gRg p.1 i).2):Int))∧(∀ M:Mem,i<List.length p.1)∧(∀ M:Mem,j<List.length (gRg p.1 i).2)∧(∀ M:Mem,0+7≤7)∧(∀ M:Mem,(match decide ([(gPt (gRg p.1 i).2 j).1]=[(2:Int)]) with | true=>some (SV.o 9) | false=>match decide ([(gPt (gRg p.1 i).2 j).1]=[(3:Int)]) with | true=>some (SV.o 10) | false=>none)=some (SV.o 10))∧(∀ M:Mem,(0:Int)≤(gPt (gRg p.1 i).2 j).2∧(gPt (gRg p.1 i).2 j).2<(↑nA:Int))∧(∀ M:Mem,Int.toNat (gPt (gRg p.1 i).2 j).2<nA)∧(∀ M:Mem,Int.toNat (gPt (gRg p.1 i).2 j).2=cf)∧lSe n (cE l) (IntKind.wrap .i64 (s+(gPt (gRg p.1 i).2 j).3)) (eI (gPt (gRg p.1 i).2 j).4) (fun(l:List Nat) (v:Nat)=>(∀ M:Mem,(0:Int)≤(gPt (gRg p.1 i).2 j).2∧(gPt (gRg p.1 i).2 j).2<(↑nA:Int))∧(∀ M:Mem,Int.toNat (gPt (gRg p.1 i).2 j).2<nA)∧(∀ M:Mem,Int.toNat (gPt (gRg p.1 i).2 j).2=cf)∧K [It.rnd [0,0,1,1,1,1,1,0,0,1,1,0,0,1,0,1,1,1,1,1,1,1,1,1] M,It.blk 6,It.blk 5,It.at [1,1,1,0,0,1,0,1,1,1,1,1,1,1,1,1],It.rnd [0,0,1,0,1,1,1,1,1,1,1,1,1] M2,It.blk 4,It.at [1,1,1,1,1,1,1,1,1,1]] (St.mk [(114,SV.v (qA (IntKind.wrap .i64 ((↑j:Int)+(1:Int))))),(113,SV.v (qA (↑(List.length (gRg p.1 i).2):Int))),(112,SV.x 0 [(2,i,1)]),(21,SV.v (qA s)),(93,SV.v (qA (↑i:Int))),(92,SV.v (qA (↑p.1.length:Int))),(91,SV.x 0 []),(18,SV.p 1 0),(17,SV.m 2),(16,SV.m 3),(11,SV.p 4 0),(10,SV.v (qA u)),(6,SV.p 5 0),(5,SV.p 6 0),(3,SV.p 7 0)] [HO.ext false (qB.s false 2 p.1.length (cRg p.1)),HO.cells [SV.o 8] 23,HO.mp true [IntKind.i64,IntKind.i64] kl (Mc.ints IntKind.u64 ml),HO.mp false [IntKind.i64] [[(2:Int)],[(3:Int)]] (Mc.svs [SV.o 9,SV.o 10]),HO.cells [SV.o 9,SV.o 10,SV.o 11,SV.o 12] 49,HO.cells [SV.v (Value.slice none 0 0),SV.v (Value.slice none 0 0),SV.v (Value.slice none 0 0),SV.v (Value.slice none 0 0)] 49,HO.cells [SV.x 0 [],SV.x 13 [],SV.x 14 [],SV.x 15 []] 33,HO.cells [SV.v (qA c.1),SV.v (qA c.2),SV.v (qA c.3),SV.x 16 [],SV.x 17 [],SV.x 18 [],SV.x 19 []] 27,HO.rowc 3 1 ms (Ct.fn (cI ss)),HO.tbl 44 56 4 nF gF none,HO.tbl 44 56 4 nA gA (some (Int.toNat (gPt (gRg p.1 i).2 j).2,20)),HO.rowc 44 1 m (Ct.fn (cT ls)),HO.rowc 103 4 0 (Ct.lit 1 []),HO.ext false (qB.s false 2 p.2.length (cTa p.2)),HO.ext false (qB.s false 6 p.3.length (cLk p.3)),HO.ext false (qB.s false 1 p.4.length (cT p.4)),HO.ext false (qB.s false 7 c.4.length (cN c.4)),HO.ext false (qB.s false 1 c.5.length (cI c.5)),HO.ext false (qB.s false 2 c.6.length (cL c.6)),HO.ext false (qB.s false 2 c.7.length (cK c.7)),HO.rowc 56 4 (List.length (zO l (Int.toNat (IntKind.wrap .i64 (s+(gPt (gRg p.1 i).2 j).3))) v)) (Ct.fn (cE (zO l (Int.toNat (IntKind.wrap .i64 (s+(gPt (gRg p.1 i).2 j).3))) v)))])) fun(l:List Nat) (v:Nat)=>(∀ M:Mem,(0:Int)≤(gPt (gRg p.1 i).2 j).2∧(gPt (gRg p.1 i).2 j).2<(↑nA:Int))∧(∀ M:Mem,Int.toNat (gPt (gRg p.1 i).2 j).2<nA)∧(∀ M:Mem,Int.toNat (gPt (gRg p.1 i).2 j).2=cf)∧K [It.rnd [0,0,1,1,1,1,1,0,0,1,1,0,0,1,0,1,1,1,1,1,1,1,1,1] M,It.blk 6,It.blk 5,It.at [1,1,1,0,0,1,0,1,1,1,1,1,1,1,1,1],It.rnd [0,0,1,0,1,1,1,1,1,1,1,1,1] M2,It.blk 4,It.at [1,1,1,1,1,1,1,1,1,1]] (St.mk [(114,SV.v (qA (IntKind.wrap .i64 ((↑j:Int)+(1:Int))))),(113,SV.v (qA (↑(List.length (gRg p.1 i).2):Int))),(112,SV.x 0 [(2,i,1)]),(21,SV.v (qA s)),(93,SV.v (qA (↑i:Int))),(92,SV.v (qA (↑p.1.length:Int))),(91,SV.x 0 []),(18,SV.p 1 0),(17,SV.m 2),(16,SV.m 3),(11,SV.p 4 0),(10,SV.v (qA u)),(6,SV.p 5 0),(5,SV.p 6 0),(3,SV.p 7 0)] [HO.ext false (qB.s false 2 p.1.length (cRg p.1)),HO.cells [SV.o 8] 23,HO.mp true [IntKind.i64,IntKind.i64] kl (Mc.ints IntKind.u64 ml),HO.mp false [IntKind.i64] [[(2:Int)],[(3:Int)]] (Mc.svs [SV.o 9,SV.o 10]),HO.cells [SV.o 9,SV.o 10,SV.o 11,SV.o 12] 49,HO.cells [SV.v (Value.slice none 0 0),SV.v (Value.slice none 0 0),SV.v (Value.slice none 0 0),SV.v (Value.slice none 0 0)] 49,HO.cells [SV.x 0 [],SV.x 13 [],SV.x 14 [],SV.x 15 []] 33,HO.cells [SV.v (qA c.1),SV.v (qA c.2),SV.v (qA c.3),SV.x 16 [],SV.x 17 [],SV.x 18 [],SV.x 19 []] 27,HO.rowc 3 1 ms (Ct.fn (cI ss)),HO.tbl 44 56 4 nF gF none,HO.tbl 44 56 4 nA gA (some (Int.toNat (gPt (gRg p.1 i).2 j).2,20)),HO.rowc 44 1 m (Ct.fn (cT ls)),HO.rowc 103 4 0 (Ct.lit 1 []),HO.ext false (qB.s false 2 p.2.length (cTa p.2)),HO.ext false (qB.s false 6 p.3.length (cLk p.3)),HO.ext false (qB.s false 1 p.4.length (cT p.4)),HO.ext false (qB.s false 7 c.4.length (cN c.4)),HO.ext false (qB.s false 1 c.5.length (cI c.5)),HO.ext false (qB.s false 2 c.6.length (cL c.6)),HO.ext false (qB.s false 2 c.7.length (cK c.7)),HO.rowc 56 4 (List.length (zO l (Int.toNat (IntKind.wrap .i64 (s+(gPt (gRg p.1 i).2 j).3))) v)) (Ct.fn (cE (zO l (Int.toNat (IntKind.wrap .i64 (s+(gPt (gRg p.1 i).2 j).3))) v)))]))∧(∀ M:Mem,i<List.length p.1)∧(∀ M:Mem,(0:Int)≤(↑j:Int)∧(↑j:Int)<(↑(List.length (gRg p.1 i).2):Int))∧(∀ M:Mem,i<List.length p.1)∧(∀ M:Mem,j<List.length (gRg p.1 i).2)∧(∀ M:Mem,0+7≤7)∧(∀ M:Mem,(match decide ([(gPt (gRg p.1 i).2 j).1]=[(2:Int)]) with | true=>some (SV.o 9) | false=>match decide ([(gPt (gRg p.1 i).2 j).1]=[(3:Int)]) with | true=>some (SV.o 10) | false=>none)=some (SV.o 10))∧(∀ M:Mem,(0:Int)≤(gPt (gRg p.1 i).2 j).2∧(gPt (gRg p.1 i).2 j).2<(↑nA:Int))∧(∀ M:Mem,Int.toNat (gPt (gRg p.1 i).2 j).2<nA)∧(∀ M:Mem,Int.toNat (gPt (gRg p.1 i).2 j).2=cf)∧lSe n (cE l) (IntKind.wrap .i64 (s+(gPt (gRg p.1 i).2 j).3)) (eI (gPt (gRg p.1 i).2 j).4) (fun(l:List Nat) (v:Nat)=>(∀ M:Mem,(0:Int)≤(gPt (gRg p.1 i).2 j).2∧(gPt (gRg p.1 i).2 j).2<(↑nA:Int))∧(∀ M:Mem,Int.toNat (gPt (gRg p.1 i).2 j).2<nA)∧(∀ M:Mem,Int.toNat (gPt (gRg p.1 i).2 j).2=cf)∧K [It.rnd [0,0,1,1,1,1,1,0,0,1,1,0,0,1,0,1,1,1,1,1,1,1,1,1] M,It.blk 6,It.blk 5,It.at [1,1,1,0,0,1,0,1,1,1,1,1,1,1,1,1],It.rnd [0,0,1,0,1,1,1,1,1,1,1,1,1] M2,It.blk 4,It.at [1,1,1,1,1,1,1,1,1,1]] (St.mk [(114,SV.v (qA (IntKind.wrap .i64 ((↑j:Int)+(1:Int))))),(113,SV.v (qA (↑(List.length (gRg p.1 i).2):Int))),(112,SV.x 0 [(2,i,1)]),(21,SV.v (qA s)),(93,SV.v (qA (↑i:Int))),(92,SV.v (qA (↑p.1.length:Int))),(91,SV.x 0 []),(18,SV.p 1 0),(17,SV.m 2),(16,SV.m 3),(11,SV.p 4 0),(10,SV.v (qA u)),(6,SV.p 5 0),(5,SV.p 6 0),(3,SV.p 7 0)] [HO.ext false (qB.s false 2 p.1.length (cRg p.1)),HO.cells [SV.o 8] 23,HO.mp true [IntKind.i64,IntKind.i64] kl (Mc.ints IntKind.u64 ml),HO.mp false [IntKind.i64] [[(2:Int)],[(3:Int)]] (Mc.svs [SV.o 9,SV.o 10]),HO.cells [SV.o 9,SV.o 10,SV.o 11,SV.o 12] 49,HO.cells [SV.v (Value.slice none 0 0),SV.v (Value.slice none 0 0),SV.v (Value.slice none 0 0),SV.v (Value.slice none 0 0)] 49,HO.cells [SV.x 0 [],SV.x 13 [],SV.x 14 [],SV.x 15 []] 33,HO.cells [SV.v (qA c.1),SV.v (qA c.2),SV.v (qA c.3),SV.x 16 [],SV.x 17 [],SV.x 18 [],SV.x 19 []] 27,HO.rowc 3 1 ms (Ct.fn (cI ss)),HO.tbl 44 56 4 nF gF none,HO.tbl 44 56 4 nA gA (some (Int.toNat (gPt (gRg p.1 i).2 j).2,20)),HO.rowc 44 1 m (Ct.fn (cT ls)),HO.rowc 103 4 0 (Ct.lit 1 []),HO.ext false (qB.s false 2 p.2.length (cTa p.2)),HO.ext false (qB.s false 6 p.3.length (cLk p.3)),HO.ext false (qB.s false 1 p.4.length (cT p.4)),HO.ext false (qB.s false 7 c.4.length (cN c.4)),HO.ext false (qB.s false 1 c.5.length (cI c.5)),HO.ext false (qB.s false 2 c.6.length (cL c.6)),HO.ext false (qB.s false 2 c.7.length (cK c.7)),HO.rowc 56 4 (List.length (zO l (Int.toNat (IntKind.wrap .i64 (s+(gPt (gRg p.1 i).2 j).3))) v)) (Ct.fn (cE (zO l (Int.toNat (IntKind.wrap .i64 (s+(gPt (gRg p.1 i).2 j).3))) v)))])) fun(l:List Nat) (v:Nat)=>(∀ M:Mem,(0:Int)≤(gPt (gRg p.1 i).2 j).2∧(gPt (gRg p.1 i).2 j).2<(↑nA:Int))∧(∀ M:Mem,Int.toNat (gPt (gRg p.1 i).2 j).2<nA)∧(∀ M:Mem,Int.toNat (gPt (gRg p.1 i).2 j).2=cf)∧K [It.rnd [0,0,1,1,1,1,1,0,0,1,1,0,0,1,0,1,1,1,1,1,1,1,1,1] M,It.blk 6,It.blk 5,It.at [1,1,1,0,0,1,0,1,1,1,1,1,1,1,1,1],It.rnd [0,0,1,0,1,1,1,1,1,1,1,1,1] M2,It.blk 4,It.at [1,1,1,1,1,1,1,1,1,1]] (St.mk [(114,SV.v (qA (IntKind.wrap .i64 ((↑j:Int)+(1:Int))))),(113,SV.v (qA (↑(List.length (gRg p.1 i).2):Int))),(112,SV.x 0 [(2,i,1)]),(21,SV.v (qA s)),(93,SV.v (qA (↑i:Int))),(92,SV.v (qA (↑p.1.length:Int))),(91,SV.x 0 []),(18,SV.p 1 0),(17,SV.m 2),(16,SV.m 3),(11,SV.p 4 0),(10,SV.v (qA u)),(6,SV.p 5 0),(5,SV.p 6 0),(3,SV.p 7 0)] [HO.ext false (qB.s false 2 p.1.length (cRg p.1)),HO.cells [SV.o 8] 23,HO.mp true [IntKind.i64,IntKind.i64] kl (Mc.ints IntKind.u64 ml),HO.mp false [IntKind.i64] [[(2:Int)],[(3:Int)]] (Mc.svs [SV.o 9,SV.o 10]),HO.cells [SV.o 9,SV.o 10,SV.o 11,SV.o 12] 49,HO.cells [SV.v (Value.slice none 0 0),SV.v (Value.slice none 0 0),SV.v (Value.slice none 0 0),SV.v (Value.slice none 0 0)] 49,HO.cells [SV.x 0 [],SV.x 13 [],SV.x 14 [],SV.x 15 []] 33,HO.cells [SV.v (qA c.1),SV.v (qA c.2),SV.v (qA c.3),SV.x 16 [],SV.x 17 [],SV.x 18 [],SV.x 19 []] 27,HO.rowc 3 1 ms (Ct.fn (cI ss)),HO.tbl 44 56 4 nF gF none,HO.tbl 44 56 4 nA gA (some (Int.toNat (gPt (gRg p.1 i).2 j).2,20)),HO.rowc 44 1 m (Ct.fn (cT ls)),HO.rowc 103 4 0 (Ct.lit 1 []),HO.ext false (qB.s false 2 p.2.length (cTa p.2)),HO.ext false (qB.s false 6 p.3.length (cLk p.3)),HO.ext false (qB.s false 1 p.4.length (cT p.4)),HO.ext false (qB.s false 7 c.4.length (cN c.4)),HO.ext false (qB.s false 1 c.5.length (cI c.5)),HO.ext false (qB.s false 2 c.6.length (cL c.6)),HO.ext false (qB.s false 2 c.7.length (cK c.7)),HO.rowc 56 4 (List.length (zO l (Int.toNat (IntKind.wrap .i64 (s+(gPt (gRg p.1 i).2 j).3))) v)) (Ct.fn (cE (zO l (Int.toNat (IntKind.wrap .i64 (s+(gPt (gRg p.1 i).2 j).3))) v)))]) else K [It.rnd [0,0,1,0,1,1,1,1,1,1,1,1,1] M2,It.blk 4,It.at [1,1,1,1,1,1,1,1,1,1]] (St.mk [(93,SV.v (qA (IntKind.wrap .i64 ((↑i:Int)+(1:Int))))),(92,SV.v (qA (↑p.1.length:Int))),(91,SV.x 0 []),(18,SV.p 1 0),(17,SV.m 2),(16,SV.m 3),(11,SV.p 4 0),(10,SV.v (qA u)),(6,SV.p 5 0),(5,SV.p 6 0),(3,SV.p 7 0)] [HO.ext false (qB.s false 2 p.1.length (cRg p.1)),HO.cells [SV.o 8] 23,HO.mp true [IntKind.i64,IntKind.i64] kl (Mc.ints IntKind.u64 ml),HO.mp false [IntKind.i64] [[(2:Int)],[(3:Int)]] (Mc.svs [SV.o 9,SV.o 10]),HO.cells [SV.o 9,SV.o 10,SV.o 11,SV.o 12] 49,HO.cells [SV.v (Value.slice none 0 0),SV.v (Value.slice none 0 0),SV.v (Value.slice none 0 0),SV.v (Value.slice none 0 0)] 49,HO.cells [SV.x 0 [],SV.x 13 [],SV.x 14 [],SV.x 15 []] 33,HO.cells [SV.v (qA c.1),SV.v (qA c.2),SV.v (qA c.3),SV.x 16 [],SV.x 17 [],SV.x 18 [],SV.x 19 []] 27,HO.rowc 3 1 ms (Ct.fn (cI ss)),HO.tbl 44 56 4 nF gF none,HO.tbl 44 56 4 nA gA (some (cf,20)),HO.rowc 44 1 m (Ct.fn (cT ls)),HO.rowc 103 4 0 (Ct.lit 1 []),HO.ext false (qB.s false 2 p.2.length (cTa p.2)),HO.ext false (qB.s false 6 p.3.length (cLk p.3)),HO.ext false (qB.s false 1 p.4.length (cT p.4)),HO.ext false (qB.s false 7 c.4.length (cN c.4)),HO.ext false (qB.s false 1 c.5.length (cI c.5)),HO.ext false (qB.s false 2 c.6.length (cL c.6)),HO.ext false (qB.s false 2 c.7.length (cK c.7)),HO.rowc 56 4 n (Ct.fn (cE l))])):=by kernel_rfl
theorem zYt(c:Cir)(p:Pln)(k:Int)(gF gA:Nat→Nat×(Nat→Nat→qB))(nF nA:Nat)(u s:Int)(ls:List (List Nat))(kl:List (List Int))(ml ss:List Int)(m ms i j M2 M:Nat)(K:List It→St→Prop)(R:SV→List HO→Prop):W (xwp Try.prog X qMn [] 60 (qO Try.f16 [] [⟨[0,1,0,1,1,1,1],[49,48,47,11,10,6,5,3],[]⟩,⟨[0,1,0,1,1,1,1,1],[64,63,62,11,10,6,5,3],[]⟩,⟨[0,1,0,1,1,1,1,1,1,1,1,1],[93,92,91,18,17,16,11,10,6,5,3],[]⟩,⟨[0,1,1,1,1,1,0,0,1,1,0,0,1,0,1,1,1,1,1,1,1,1,1],[114,113,112,21,93,92,91,18,17,16,11,10,6,5,3],[]⟩,⟨[0,1,0,1,1,1,1,1,1,1,1,1,1,1],[144,143,142,26,18,11,6,5,3],[]⟩]) [] (.at [0,0,1,1,1,1,1,0,0,1,1,0,0,1,0,1,1,1,1,1,1,1,1,1]::.rnd [0,0,1,1,1,1,1,0,0,1,1,0,0,1,0,1,1,1,1,1,1,1,1,1] M::[.blk 6,.blk 5,.at [1,1,1,0,0,1,0,1,1,1,1,1,1,1,1,1],.rnd [0,0,1,0,1,1,1,1,1,1,1,1,1] M2,.blk 4,.at [1,1,1,1,1,1,1,1,1,1]]) (St.mk [(114,.v (qA (j:Int))),(113,.v (qA (↑(List.length (gRg p.1 i).2):Int))),(112,.x 0 [(2,i,1)]),(21,.v (qA s)),(93,.v (qA (↑i:Int))),(92,.v (qA (↑p.1.length:Int))),(91,.x 0 []),(18,.p 1 0),(17,.m 2),(16,.m 3),(11,.p 4 0),(10,.v (qA u)),(6,.p 5 0),(5,.p 6 0),(3,.p 7 0)] [.ext false (.s false 2 p.1.length (cRg p.1)),.cells [.o 8] 23,.mp true [IntKind.i64,IntKind.i64] kl (Mc.ints IntKind.u64 ml),.mp false [IntKind.i64] [[(2:Int)],[(3:Int)]] (Mc.svs [.o 9,.o 10]),.cells [.o 9,.o 10,.o 11,.o 12] 49,.cells [.v (Value.slice none 0 0),.v (Value.slice none 0 0),.v (Value.slice none 0 0),.v (Value.slice none 0 0)] 49,.cells [.x 0 [],.x 13 [],.x 14 [],.x 15 []] 33,.cells [.v (qA c.1),.v (qA c.2),.v (qA c.3),.x 16 [],.x 17 [],.x 18 [],.x 19 []] 27,.rowc 3 1 ms (.fn (cI ss)),HO.tbl 44 56 4 nF gF none,HO.tbl 44 56 4 nA gA none,.rowc 44 1 m (.fn (cT ls)),.rowc 103 4 0 (.lit 1 []),.ext false (.s false 2 p.2.length (cTa p.2)),.ext false (.s false 6 p.3.length (cLk p.3)),.ext false (.s false 1 p.4.length (cT p.4)),.ext false (.s false 7 c.4.length (cN c.4)),.ext false (.s false 1 c.5.length (cI c.5)),.ext false (.s false 2 c.6.length (cL c.6)),.ext false (.s false 2 c.7.length (cK c.7))]) K R)=W (bif decide ((↑j:Int)<(↑(List.length (gRg p.1 i).2):Int)) then(∀ M:Mem,i<List.length p.1)∧(∀ M:Mem,(0:Int)≤(↑j:Int)∧(↑j:Int)<(↑(List.length (gRg p.1 i).2):Int))∧(∀ M:Mem,i<List.length p.1)∧(∀ M:Mem,j<List.length (gRg p.1 i).2)∧(∀ M:Mem,0+7≤7)∧K [It.ops [0,1,0,0,1,1,0,0,1,1,1,1,1,0,0,1,1,0,0,1,0,1,1,1,1,1,1,1,1,1] 3,.at [1,1,0,0,1,1,0,0,1,1,1,1,1,0,0,1,1,0,0,1,0,1,1,1,1,1,1,1,1,1],.blk 7,.at [1,1,1,0,0,1,1,1,1,1,0,0,1,1,0,0,1,0,1,1,1,1,1,1,1,1,1],.rnd [0,0,1,1,1,1,1,0,0,1,1,0,0,1,0,1,1,1,1,1,1,1,1,1] M,.blk 6,.blk 5,.at [1,1,1,0,0,1,0,1,1,1,1,1,1,1,1,1],.rnd [0,0,1,0,1,1,1,1,1,1,1,1,1] M2,.blk 4,.at [1,1,1,1,1,1,1,1,1,1]] (St.mk [(120,.v (qA (gPt (gRg p.1 i).2 j).1)),(119,.p 20 0),(118,.m 3),(24,.p 20 0),(117,.agg [.v (qA (gPt (gRg p.1 i).2 j).1),.v (qA (gPt (gRg p.1 i).2 j).2),.v (qA (gPt (gRg p.1 i).2 j).3),.v (qD (↑(qC (gPt (gRg p.1 i).2 j).4 0):Int)),.v (qD (↑(qC (gPt (gRg p.1 i).2 j).4 1):Int)),.v (qD (↑(qC (gPt (gRg p.1 i).2 j).4 2):Int)),.v (qD (↑(qC (gPt (gRg p.1 i).2 j).4 3):Int))]),(116,SV.xp 0 [(2,i,1)] 7 j 0),(115,.bl true),(114,.v (qA (↑j:Int))),(113,.v (qA (↑(List.length (gRg p.1 i).2):Int))),(112,.x 0 [(2,i,1)]),(21,.v (qA s)),(93,.v (qA (↑i:Int))),(92,.v (qA (↑p.1.length:Int))),(91,.x 0 []),(18,.p 1 0),(17,.m 2),(16,.m 3),(11,.p 4 0),(10,.v (qA u)),(6,.p 5 0),(5,.p 6 0),(3,.p 7 0)] [.ext false (.s false 2 p.1.length (cRg p.1)),.cells [.o 8] 23,.mp true [IntKind.i64,IntKind.i64] kl (Mc.ints IntKind.u64 ml),.mp false [IntKind.i64] [[(2:Int)],[(3:Int)]] (Mc.svs [.o 9,.o 10]),.cells [.o 9,.o 10,.o 11,.o 12] 49,.cells [.v (Value.slice none 0 0),.v (Value.slice none 0 0),.v (Value.slice none 0 0),.v (Value.slice none 0 0)] 49,.cells [.x 0 [],.x 13 [],.x 14 [],.x 15 []] 33,.cells [.v (qA c.1),.v (qA c.2),.v (qA c.3),.x 16 [],.x 17 [],.x 18 [],.x 19 []] 27,.rowc 3 1 ms (.fn (cI ss)),HO.tbl 44 56 4 nF gF none,HO.tbl 44 56 4 nA gA none,.rowc 44 1 m (.fn (cT ls)),.rowc 103 4 0 (.lit 1 []),.ext false (.s false 2 p.2.length (cTa p.2)),.ext false (.s false 6 p.3.length (cLk p.3)),.ext false (.s false 1 p.4.length (cT p.4)),.ext false (.s false 7 c.4.length (cN c.4)),.ext false (.s false 1 c.5.length (cI c.5)),.ext false (.s false 2 c.6.length (cL c.6)),.ext false (.s false 2 c.7.length (cK c.7)),.cells [.v (qA (gPt (gRg p.1 i).2 j).1),.v (qA (gPt (gRg p.1 i).2 j).2),.v (qA (gPt (gRg p.1 i).2 j).3),.v (qD (↑(qC (gPt (gRg p.1 i).2 j).4 0):Int)),.v (qD (↑(qC (gPt (gRg p.1 i).2 j).4 1):Int)),.v (qD (↑(qC (gPt (gRg p.1 i).2 j).4 2):Int)),.v (qD (↑(qC (gPt (gRg p.1 i).2 j).4 3):Int))] 58]) else K [.rnd [0,0,1,0,1,1,1,1,1,1,1,1,1] M2,.blk 4,.at [1,1,1,1,1,1,1,1,1,1]] (St.mk [(93,.v (qA (IntKind.wrap .i64 ((↑i:Int)+(1:Int))))),(92,.v (qA (↑p.1.length:Int))),(91,.x 0 []),(18,.p 1 0),(17,.m 2),(16,.m 3),(11,.p 4 0),(10,.v (qA u)),(6,.p 5 0),(5,.p 6 0),(3,.p 7 0)] [.ext false (.s false 2 p.1.length (cRg p.1)),.cells [.o 8] 23,.mp true [IntKind.i64,IntKind.i64] kl (Mc.ints IntKind.u64 ml),.mp false [IntKind.i64] [[(2:Int)],[(3:Int)]] (Mc.svs [.o 9,.o 10]),.cells [.o 9,.o 10,.o 11,.o 12] 49,.cells [.v (Value.slice none 0 0),.v (Value.slice none 0 0),.v (Value.slice none 0 0),.v (Value.slice none 0 0)] 49,.cells [.x 0 [],.x 13 [],.x 14 [],.x 15 []] 33,.cells [.v (qA c.1),.v (qA c.2),.v (qA c.3),.x 16 [],.x 17 [],.x 18 [],.x 19 []] 27,.rowc 3 1 ms (.fn (cI ss)),HO.tbl 44 56 4 nF gF none,HO.tbl 44 56 4 nA gA none,.rowc 44 1 m (.fn (cT ls)),.rowc 103 4 0 (.lit 1 []),.ext false (.s false 2 p.2.length (cTa p.2)),.ext false (.s false 6 p.3.length (cLk p.3)),.ext false (.s false 1 p.4.length (cT p.4)),.ext false (.s false 7 c.4.length (cN c.4)),.ext false (.s false 1 c.5.length (cI c.5)),.ext false (.s false 2 c.6.length (cL c.6)),.ext false (.s false 2 c.7.length (cK c.7))])):=by kernel_rfl
theorem qId(c:Cir)(p:Pln)(hp:p.ok)(k u:Int)(hR:plR c p u)(hu0:0≤u)(hu:u≤1000000)(ls:List (List Nat))(m ms:Nat)(kl:List (List Int))(ml ss:List Int)(i:Nat)(hi:i<p.rg.length)(s:Int)(hs0:0≤s)(hsr:s+(gRg p.rg i).1≤u)(M2:Nat)(Q:SV→List HO→Prop):∀(d j:Nat) (lF lA:List (List Nat)),j+d=(gRg p.rg i).2.length→lF.length=c.fx.toNat→lA.length=c.ad.toNat→(∀ q,((gT lF q).length:Int)≤u)→(∀ q,((gT lA q).length:Int)≤u) →
  FOk Try.prog Try.f16 Q (.rnd [0,0,1,0,1,1,1,1,1,1,1,1,1] M2::[.blk 4,.at [1,1,1,1,1,1,1,1,1,1]]) (St.mk [(93,SV.v (qA ((i+1:Nat):Int))),(92,SV.v (qA (↑(List.length p.1):Int))),(91,SV.x 0 []),(18,SV.p 1 0),(17,SV.m 2),(16,SV.m 3),(11,SV.p 4 0),(10,SV.v (qA u)),(6,SV.p 5 0),(5,SV.p 6 0),(3,SV.p 7 0)] [HO.ext false (qB.s false 2 (List.length p.1) (cRg p.1)),HO.cells [SV.o 8] 23,HO.mp true [IntKind.i64,IntKind.i64] kl (Mc.ints IntKind.u64 ml),HO.mp false [IntKind.i64] [[(2:Int)],[(3:Int)]] (Mc.svs [SV.o 9,SV.o 10]),HO.cells [SV.o 9,SV.o 10,SV.o 11,SV.o 12] 49,HO.cells [SV.v (Value.slice none 0 0),SV.v (Value.slice none 0 0),SV.v (Value.slice none 0 0),SV.v (Value.slice none 0 0)] 49,HO.cells [SV.x 0 [],SV.x 13 [],SV.x 14 [],SV.x 15 []] 33,HO.cells [SV.v (qA c.1),SV.v (qA c.2),SV.v (qA c.3),SV.x 16 [],SV.x 17 [],SV.x 18 [],SV.x 19 []] 27,HO.rowc 3 1 ms (Ct.fn (cI ss)),HO.tbl 44 56 4 (xZ s ((gRg p.rg i).2.drop j) lF lA).1.length (tC (xZ s ((gRg p.rg i).2.drop j) lF lA).1) none,HO.tbl 44 56 4 (xZ s ((gRg p.rg i).2.drop j) lF lA).2.length (tC (xZ s ((gRg p.rg i).2.drop j) lF lA).2) none,HO.rowc 44 1 m (Ct.fn (cT ls)),HO.rowc 103 4 0 (Ct.lit 1 []),HO.ext false (qB.s false 2 (List.length p.2) (cTa p.2)),HO.ext false (qB.s false 6 (List.length p.3) (cLk p.3)),HO.ext false (qB.s false 1 (List.length p.4) (cT p.4)),HO.ext false (qB.s false 7 (List.length c.4) (cN c.4)),HO.ext false (qB.s false 1 (List.length c.5) (cI c.5)),HO.ext false (qB.s false 2 (List.length c.6) (cL c.6)),HO.ext false (qB.s false 2 (List.length c.7) (cK c.7))]) →
  FOk Try.prog Try.f16 Q (.rnd [0,0,1,1,1,1,1,0,0,1,1,0,0,1,0,1,1,1,1,1,1,1,1,1] (d+1)::[.blk 6,.blk 5,.at [1,1,1,0,0,1,0,1,1,1,1,1,1,1,1,1],.rnd [0,0,1,0,1,1,1,1,1,1,1,1,1] M2,.blk 4,.at [1,1,1,1,1,1,1,1,1,1]]) (St.mk [(114,SV.v (qA (j:Int))),(113,SV.v (qA (↑(List.length (gRg p.1 i).2):Int))),(112,SV.x 0 [(2,i,1)]),(21,SV.v (qA s)),(93,SV.v (qA (↑i:Int))),(92,SV.v (qA (↑(List.length p.1):Int))),(91,SV.x 0 []),(18,SV.p 1 0),(17,SV.m 2),(16,SV.m 3),(11,SV.p 4 0),(10,SV.v (qA u)),(6,SV.p 5 0),(5,SV.p 6 0),(3,SV.p 7 0)] [HO.ext false (qB.s false 2 (List.length p.1) (cRg p.1)),HO.cells [SV.o 8] 23,HO.mp true [IntKind.i64,IntKind.i64] kl (Mc.ints IntKind.u64 ml),HO.mp false [IntKind.i64] [[(2:Int)],[(3:Int)]] (Mc.svs [SV.o 9,SV.o 10]),HO.cells [SV.o 9,SV.o 10,SV.o 11,SV.o 12] 49,HO.cells [SV.v (Value.slice none 0 0),SV.v (Value.slice none 0 0),SV.v (Value.slice none 0 0),SV.v (Value.slice none 0 0)] 49,HO.cells [SV.x 0 [],SV.x 13 [],SV.x 14 [],SV.x 15 []] 33,HO.cells [SV.v (qA c.1),SV.v (qA c.2),SV.v (qA c.3),SV.x 16 [],SV.x 17 [],SV.x 18 [],SV.x 19 []] 27,HO.rowc 3 1 ms (Ct.fn (cI ss)),HO.tbl 44 56 4 lF.length (tC lF) none,HO.tbl 44 56 4 lA.length (tC lA) none,HO.rowc 44 1 m (Ct.fn (cT ls)),HO.rowc 103 4 0 (Ct.lit 1 []),HO.ext false (qB.s false 2 (List.length p.2) (cTa p.2)),HO.ext false (qB.s false 6 (List.length p.3) (cLk p.3)),HO.ext false (qB.s false 1 (List.length p.4) (cT p.4)),HO.ext false (qB.s false 7 (List.length c.4) (cN c.4)),HO.ext false (qB.s false 1 (List.length c.5) (cI c.5)),HO.ext false (qB.s false 2 (List.length c.6) (cL c.6)),HO.ext false (qB.s false 2 (List.length c.7) (cK c.7))])
 | 0,j,lF,lA,hd,hlF,hlA,hcF,hcA,hq=>by
  have hn:=hR.nr
  refine FOk.rnd (qE hm 60 ((zYt c p k (tC lF) (tC lA) lF.length lA.length u s ls kl ml ss m ms i j M2 0 _ _).mpr ⟨?_⟩))
  rw[qF,if_neg (by omega),qN _ (by omega)]
  rw[show j=(gRg p.rg i).2.length by omega,List.drop_length] at hq
  exact hq
 | d+1,j,lF,lA,hd,hlF,hlA,hcF,hcA,hq=>by
  have hj:j<(gRg p.rg i).2.length:=by omega
  have hg:=hR.r _ (xK hi)
  have hn:=hg.n
  have hx:=hg.x _ (qJz hj)
  have hc0:=hx.c0
  have ho0:=hx.o0
  have ho1:=hx.o1
  have hr1:((s+(gPt (gRg p.rg i).2 j).of).toNat:Int)+1≤u:=by omega
  rw[qCj hj,xZ] at hq
  rcases hx.k with ⟨h2,hc⟩ | ⟨h3,hc⟩
  ·have hk:(Int.toNat (gPt (gRg p.rg i).2 j).co)<lF.length:=by omega
   rw[if_pos h2] at hq
   have hcl:=hcF (Int.toNat (gPt (gRg p.rg i).2 j).co)
   have ih:=qId c p hp k u hR hu0 hu ls m ms kl ml ss i hi s hs0 hsr M2 Q d (j+1) (lF.set (Int.toNat (gPt (gRg p.rg i).2 j).co) (zO (gT lF (Int.toNat (gPt (gRg p.rg i).2 j).co)) (Int.toNat (s+(gPt (gRg p.rg i).2 j).of)) (gPt (gRg p.rg i).2 j).v)) lA (by omega) (by rw[List.length_set]; exact hlF) hlA (qFa hk hcF hr1) hcA hq
   have fin:FOk Try.prog Try.f16 Q (.rnd [0,0,1,1,1,1,1,0,0,1,1,0,0,1,0,1,1,1,1,1,1,1,1,1] d.succ::[.blk 6,.blk 5,.at [1,1,1,0,0,1,0,1,1,1,1,1,1,1,1,1],.rnd [0,0,1,0,1,1,1,1,1,1,1,1,1] M2,.blk 4,.at [1,1,1,1,1,1,1,1,1,1]]) (St.mk [(114,SV.v (qA ((j+1:Nat):Int))),(113,SV.v (qA (↑(List.length (gRg p.1 i).2):Int))),(112,SV.x 0 [(2,i,1)]),(21,SV.v (qA s)),(93,SV.v (qA (↑i:Int))),(92,SV.v (qA (↑(List.length p.1):Int))),(91,SV.x 0 []),(18,SV.p 1 0),(17,SV.m 2),(16,SV.m 3),(11,SV.p 4 0),(10,SV.v (qA u)),(6,SV.p 5 0),(5,SV.p 6 0),(3,SV.p 7 0)] [HO.ext false (qB.s false 2 (List.length p.1) (cRg p.1)),HO.cells [SV.o 8] 23,HO.mp true [IntKind.i64,IntKind.i64] kl (Mc.ints IntKind.u64 ml),HO.mp false [IntKind.i64] [[(2:Int)],[(3:Int)]] (Mc.svs [SV.o 9,SV.o 10]),HO.cells [SV.o 9,SV.o 10,SV.o 11,SV.o 12] 49,HO.cells [SV.v (Value.slice none 0 0),SV.v (Value.slice none 0 0),SV.v (Value.slice none 0 0),SV.v (Value.slice none 0 0)] 49,HO.cells [SV.x 0 [],SV.x 13 [],SV.x 14 [],SV.x 15 []] 33,HO.cells [SV.v (qA c.1),SV.v (qA c.2),SV.v (qA c.3),SV.x 16 [],SV.x 17 [],SV.x 18 [],SV.x 19 []] 27,HO.rowc 3 1 ms (Ct.fn (cI ss)),HO.tbl 44 56 4 lF.length (tC lF) (some ((Int.toNat (gPt (gRg p.rg i).2 j).co),20)),HO.tbl 44 56 4 lA.length (tC lA) none,HO.rowc 44 1 m (Ct.fn (cT ls)),HO.rowc 103 4 0 (Ct.lit 1 []),HO.ext false (qB.s false 2 (List.length p.2) (cTa p.2)),HO.ext false (qB.s false 6 (List.length p.3) (cLk p.3)),HO.ext false (qB.s false 1 (List.length p.4) (cT p.4)),HO.ext false (qB.s false 7 (List.length c.4) (cN c.4)),HO.ext false (qB.s false 1 (List.length c.5) (cI c.5)),HO.ext false (qB.s false 2 (List.length c.6) (cL c.6)),HO.ext false (qB.s false 2 (List.length c.7) (cK c.7)),HO.rowc 56 4 (List.length (zO (gT lF (Int.toNat (gPt (gRg p.rg i).2 j).co)) (Int.toNat (s+(gPt (gRg p.rg i).2 j).of)) (gPt (gRg p.rg i).2 j).v)) (Ct.fn (cE (zO (gT lF (Int.toNat (gPt (gRg p.rg i).2 j).co)) (Int.toNat (s+(gPt (gRg p.rg i).2 j).of)) (gPt (gRg p.rg i).2 j).v)))]):=by
    refine FOk.unfocus 9 20 _ rfl rfl (by decide) ?_
    rw[qRm hk _]
    rw[List.length_set] at ih
    exact FOk.norm (ks:=[114,113,112,21,93,92,91,18,17,16,11,10,6,5,3]) (nl:=[]) (by kernel_rfl) ih
   refine FOk.focus 9 (Int.toNat (gPt (gRg p.rg i).2 j).co) rfl hk ?_
   refine FOk.rnd (qE hm 60 ((zYk c p k (tC lF) (tC lA) lF.length lA.length u s ls kl ml ss (gT lF (Int.toNat (gPt (gRg p.rg i).2 j).co)) (Int.toNat (gPt (gRg p.rg i).2 j).co) (gT lF (Int.toNat (gPt (gRg p.rg i).2 j).co)).length m ms i j M2 (d+1) _ _).mpr ⟨?_⟩))
   rw[qF,if_pos (by omega),qN _ (by omega),jA (s+(gPt (gRg p.rg i).2 j).of) (by omega)]
   repeat' (first | refine And.intro (fun _=>by omega) ?_ | refine And.intro (fun _=>by rw[h2]; rfl) ?_ | refine And.intro ?_ ?_)
   all_goals exact⟨⟨_,_,rfl,IsC.refl _ _ _,rfl,by omega,by omega,by omega,fun _=>⟨fun _=>by omega,fun _=>by omega,fun _=>rfl,fin⟩,fun _=>⟨fun _=>by omega,fun _=>by omega,fun _=>rfl,fin⟩⟩⟩
  ·have hk:(Int.toNat (gPt (gRg p.rg i).2 j).co)<lA.length:=by omega
   rw[if_neg (by omega)] at hq
   have hcl:=hcA (Int.toNat (gPt (gRg p.rg i).2 j).co)
   have ih:=qId c p hp k u hR hu0 hu ls m ms kl ml ss i hi s hs0 hsr M2 Q d (j+1) lF (lA.set (Int.toNat (gPt (gRg p.rg i).2 j).co) (zO (gT lA (Int.toNat (gPt (gRg p.rg i).2 j).co)) (Int.toNat (s+(gPt (gRg p.rg i).2 j).of)) (gPt (gRg p.rg i).2 j).v)) (by omega) hlF (by rw[List.length_set]; exact hlA) hcF (qFa hk hcA hr1) hq
   have fin:FOk Try.prog Try.f16 Q (.rnd [0,0,1,1,1,1,1,0,0,1,1,0,0,1,0,1,1,1,1,1,1,1,1,1] d.succ::[.blk 6,.blk 5,.at [1,1,1,0,0,1,0,1,1,1,1,1,1,1,1,1],.rnd [0,0,1,0,1,1,1,1,1,1,1,1,1] M2,.blk 4,.at [1,1,1,1,1,1,1,1,1,1]]) (St.mk [(114,SV.v (qA ((j+1:Nat):Int))),(113,SV.v (qA (↑(List.length (gRg p.1 i).2):Int))),(112,SV.x 0 [(2,i,1)]),(21,SV.v (qA s)),(93,SV.v (qA (↑i:Int))),(92,SV.v (qA (↑(List.length p.1):Int))),(91,SV.x 0 []),(18,SV.p 1 0),(17,SV.m 2),(16,SV.m 3),(11,SV.p 4 0),(10,SV.v (qA u)),(6,SV.p 5 0),(5,SV.p 6 0),(3,SV.p 7 0)] [HO.ext false (qB.s false 2 (List.length p.1) (cRg p.1)),HO.cells [SV.o 8] 23,HO.mp true [IntKind.i64,IntKind.i64] kl (Mc.ints IntKind.u64 ml),HO.mp false [IntKind.i64] [[(2:Int)],[(3:Int)]] (Mc.svs [SV.o 9,SV.o 10]),HO.cells [SV.o 9,SV.o 10,SV.o 11,SV.o 12] 49,HO.cells [SV.v (Value.slice none 0 0),SV.v (Value.slice none 0 0),SV.v (Value.slice none 0 0),SV.v (Value.slice none 0 0)] 49,HO.cells [SV.x 0 [],SV.x 13 [],SV.x 14 [],SV.x 15 []] 33,HO.cells [SV.v (qA c.1),SV.v (qA c.2),SV.v (qA c.3),SV.x 16 [],SV.x 17 [],SV.x 18 [],SV.x 19 []] 27,HO.rowc 3 1 ms (Ct.fn (cI ss)),HO.tbl 44 56 4 lF.length (tC lF) none,HO.tbl 44 56 4 lA.length (tC lA) (some ((Int.toNat (gPt (gRg p.rg i).2 j).co),20)),HO.rowc 44 1 m (Ct.fn (cT ls)),HO.rowc 103 4 0 (Ct.lit 1 []),HO.ext false (qB.s false 2 (List.length p.2) (cTa p.2)),HO.ext false (qB.s false 6 (List.length p.3) (cLk p.3)),HO.ext false (qB.s false 1 (List.length p.4) (cT p.4)),HO.ext false (qB.s false 7 (List.length c.4) (cN c.4)),HO.ext false (qB.s false 1 (List.length c.5) (cI c.5)),HO.ext false (qB.s false 2 (List.length c.6) (cL c.6)),HO.ext false (qB.s false 2 (List.length c.7) (cK c.7)),HO.rowc 56 4 (List.length (zO (gT lA (Int.toNat (gPt (gRg p.rg i).2 j).co)) (Int.toNat (s+(gPt (gRg p.rg i).2 j).of)) (gPt (gRg p.rg i).2 j).v)) (Ct.fn (cE (zO (gT lA (Int.toNat (gPt (gRg p.rg i).2 j).co)) (Int.toNat (s+(gPt (gRg p.rg i).2 j).of)) (gPt (gRg p.rg i).2 j).v)))]):=by
    refine FOk.unfocus 10 20 _ rfl rfl (by decide) ?_
    rw[qRm hk _]
    rw[List.length_set] at ih
    exact FOk.norm (ks:=[114,113,112,21,93,92,91,18,17,16,11,10,6,5,3]) (nl:=[]) (by kernel_rfl) ih
   refine FOk.focus 10 (Int.toNat (gPt (gRg p.rg i).2 j).co) rfl hk ?_
   refine FOk.rnd (qE hm 60 ((zZc c p k (tC lF) (tC lA) lF.length lA.length u s ls kl ml ss (gT lA (Int.toNat (gPt (gRg p.rg i).2 j).co)) (Int.toNat (gPt (gRg p.rg i).2 j).co) (gT lA (Int.toNat (gPt (gRg p.rg i).2 j).co)).length m ms i j M2 (d+1) _ _).mpr ⟨?_⟩))
   rw[qF,if_pos (by omega),qN _ (by omega),jA (s+(gPt (gRg p.rg i).2 j).of) (by omega)]
   repeat' (first | refine And.intro (fun _=>by omega) ?_ | refine And.intro (fun _=>by rw[h3]; rfl) ?_ | refine And.intro ?_ ?_)
   all_goals exact⟨⟨_,_,rfl,IsC.refl _ _ _,rfl,by omega,by omega,by omega,fun _=>⟨fun _=>by omega,fun _=>by omega,fun _=>rfl,fin⟩,fun _=>⟨fun _=>by omega,fun _=>by omega,fun _=>rfl,fin⟩⟩⟩
end Go.Proofs.Ytlmjdcbhpffanaa
/- Layout: regions. -/
namespace Go.Proofs.Ytlmjdcbhpffanaa
open Go.Sx Go.Pl
set_option linter.unusedVariables false
set_option maxRecDepth 100000
theorem zLi(c:Cir)(p:Pln)(k:Int)(gF gA:Nat→Nat×(Nat→Nat→qB))(nF nA:Nat)(u:Int)(ls:List (List Nat))(kl:List (List Int))(ml ss:List Int)(m ms i M:Nat)(K:List It→St→Prop)(R:SV→List HO→Prop):W (xwp Try.prog X qMn [] 60 (qO Try.f16 [] [⟨[0,1,0,1,1,1,1],[49,48,47,11,10,6,5,3],[]⟩,⟨[0,1,0,1,1,1,1,1],[64,63,62,11,10,6,5,3],[]⟩,⟨[0,1,0,1,1,1,1,1,1,1,1,1],[93,92,91,18,17,16,11,10,6,5,3],[]⟩,⟨[0,1,1,1,1,1,0,0,1,1,0,0,1,0,1,1,1,1,1,1,1,1,1],[114,113,112,21,93,92,91,18,17,16,11,10,6,5,3],[]⟩,⟨[0,1,0,1,1,1,1,1,1,1,1,1,1,1],[144,143,142,26,18,11,6,5,3],[]⟩]) [] (.at [0,0,1,0,1,1,1,1,1,1,1,1,1]::.rnd [0,0,1,0,1,1,1,1,1,1,1,1,1] M::[.blk 4,.at [1,1,1,1,1,1,1,1,1,1]]) (St.mk [(93,.v (qA (i:Int))),(92,.v (qA (↑p.1.length:Int))),(91,.x 0 []),(18,.p 1 0),(17,.m 2),(16,.m 3),(11,.p 4 0),(10,.v (qA u)),(6,.p 5 0),(5,.p 6 0),(3,.p 7 0)] [.ext false (.s false 2 p.1.length (cRg p.1)),.cells [.o 8] 23,.mp true [IntKind.i64,IntKind.i64] kl (Mc.ints IntKind.u64 ml),.mp false [IntKind.i64] [[(2:Int)],[(3:Int)]] (Mc.svs [.o 9,.o 10]),.cells [.o 9,.o 10,.o 11,.o 12] 49,.cells [.v (Value.slice none 0 0),.v (Value.slice none 0 0),.v (Value.slice none 0 0),.v (Value.slice none 0 0)] 49,.cells [.x 0 [],.x 13 [],.x 14 [],.x 15 []] 33,.cells [.v (qA c.1),.v (qA c.2),.v (qA c.3),.x 16 [],.x 17 [],.x 18 [],.x 19 []] 27,.rowc 3 1 ms (.fn (cI ss)),HO.tbl 44 56 4 nF gF none,HO.tbl 44 56 4 nA gA none,.rowc 44 1 m (.fn (cT ls)),.rowc 103 4 0 (.lit 1 []),.ext false (.s false 2 p.2.length (cTa p.2)),.ext false (.s false 6 p.3.length (cLk p.3)),.ext false (.s false 1 p.4.length (cT p.4)),.ext false (.s false 7 c.4.length (cN c.4)),.ext false (.s false 1 c.5.length (cI c.5)),.ext false (.s false 2 c.6.length (cL c.6)),.ext false (.s false 2 c.7.length (cK c.7))]) K R)=W (bif decide ((↑i:Int)<(↑p.1.length:Int)) then(∀ M:Mem,(0:Int)≤(↑i:Int)∧(↑i:Int)<(↑p.1.length:Int))∧(∀ M:Mem,i<List.length p.1)∧(∀ M:Mem,0+2≤2)∧lPc kl ml (gRg p.1 i).1 u p.1.length (cRg p.1) i (fun(rg:List (Int×List Pt))=>(∀ M:Mem,4≤4)∧R (.tup [.agg [.v (Value.slice none 0 0),.v (Value.slice none 0 0),.v (Value.slice none 0 0),.v (Value.slice none 0 0)],.v (Value.slice none 0 0),.v (qA 141)]) []) fun(rg:List (Int×List Pt)) (s:Int)=>(∀ M:Mem,(ms+1)*8≤140737488355328∧ms+1≤140737488355328)∧(∀ M:Mem,0+1≤1)∧(∀ M:Mem,i<List.length rg)∧K [.at [0,1,1,1,1,1,0,0,1,1,0,0,1,0,1,1,1,1,1,1,1,1,1],.blk 6,.blk 5,.at [1,1,1,0,0,1,0,1,1,1,1,1,1,1,1,1],.rnd [0,0,1,0,1,1,1,1,1,1,1,1,1] M,.blk 4,.at [1,1,1,1,1,1,1,1,1,1]] (St.mk [(114,.v (qA 0)),(113,.v (qA (↑(List.length (gRg rg i).2):Int))),(112,.x 0 [(2,i,1)]),(21,.v (qA s)),(93,.v (qA (↑i:Int))),(92,.v (qA (↑p.1.length:Int))),(91,.x 0 []),(18,.p 1 0),(17,.m 2),(16,.m 3),(11,.p 4 0),(10,.v (qA u)),(6,.p 5 0),(5,.p 6 0),(3,.p 7 0)] [.ext false (.s false 2 rg.length (cRg rg)),.cells [.o 8] 23,.mp true [IntKind.i64,IntKind.i64] (xO (xB (gRg p.1 i).1 s) kl ml (gRg rg i).2).1 (Mc.ints IntKind.u64 (xO (xB (gRg p.1 i).1 s) kl ml (gRg rg i).2).2),.mp false [IntKind.i64] [[(2:Int)],[(3:Int)]] (Mc.svs [.o 9,.o 10]),.cells [.o 9,.o 10,.o 11,.o 12] 49,.cells [.v (Value.slice none 0 0),.v (Value.slice none 0 0),.v (Value.slice none 0 0),.v (Value.slice none 0 0)] 49,.cells [.x 0 [],.x 13 [],.x 14 [],.x 15 []] 33,.cells [.v (qA c.1),.v (qA c.2),.v (qA c.3),.x 16 [],.x 17 [],.x 18 [],.x 19 []] 27,.rowc 3 1 (ms+1) (.app ms (.fn (cI ss)) (.lit 1 [.v (qA s)])),HO.tbl 44 56 4 nF gF none,HO.tbl 44 56 4 nA gA none,.rowc 44 1 m (.fn (cT ls)),.rowc 103 4 0 (.lit 1 []),.ext false (.s false 2 p.2.length (cTa p.2)),.ext false (.s false 6 p.3.length (cLk p.3)),.ext false (.s false 1 p.4.length (cT p.4)),.ext false (.s false 7 c.4.length (cN c.4)),.ext false (.s false 1 c.5.length (cI c.5)),.ext false (.s false 2 c.6.length (cL c.6)),.ext false (.s false 2 c.7.length (cK c.7))]) else K [.at [0,1,0,1,1,1,1,1,1,1,1,1,1,1],.blk 8,.at [1,1,1,1,1,1,1,1,1,1,1,1]] (St.mk [(144,.v (qA 0)),(143,.v (qA (↑p.3.length:Int))),(142,.x 0 []),(26,SV.fn (Fn.func 41) [] [.p 1 0]),(18,.p 1 0),(11,.p 2 0),(6,.p 3 0),(5,.p 4 0),(3,.p 5 0)] [.ext false (.s false 6 p.3.length (cLk p.3)),.cells [.o 6] 23,.cells [.o 7,.o 8,.o 9,.o 10] 49,.cells [.v (Value.slice none 0 0),.v (Value.slice none 0 0),.v (Value.slice none 0 0),.v (Value.slice none 0 0)] 49,.cells [.x 11 [],.x 12 [],.x 0 [],.x 13 []] 33,.cells [.v (qA c.1),.v (qA c.2),.v (qA c.3),.x 14 [],.x 15 [],.x 16 [],.x 17 []] 27,.rowc 3 1 ms (.fn (cI ss)),HO.tbl 44 56 4 nF gF none,HO.tbl 44 56 4 nA gA none,.rowc 44 1 m (.fn (cT ls)),.rowc 103 4 0 (.lit 1 []),.ext false (.s false 2 p.1.length (cRg p.1)),.ext false (.s false 2 p.2.length (cTa p.2)),.ext false (.s false 1 p.4.length (cT p.4)),.ext false (.s false 7 c.4.length (cN c.4)),.ext false (.s false 1 c.5.length (cI c.5)),.ext false (.s false 2 c.6.length (cL c.6)),.ext false (.s false 2 c.7.length (cK c.7))])):=by kernel_rfl
theorem qPd(c:Cir)(p:Pln)(hp:p.ok)(k u:Int)(hR:plR c p u)(hu0:0≤u)(hu:u≤1000000)(ls:List (List Nat))(m:Nat)(Q:SV→List HO→Prop):∀(d i:Nat) (kl:List (List Int)) (ml:List Int) (lF lA:List (List Nat)) (ss:List Int),i+d=p.rg.length→ml.length=kl.length→lF.length=c.fx.toNat→lA.length=c.ad.toNat→(∀ q,((gT lF q).length:Int)≤u)→(∀ q,((gT lA q).length:Int)≤u)→ss.length=i→(xV u (p.rg.drop i) kl ml lF lA ss=none→Q (SV.tup [SV.agg [SV.v (Value.slice none 0 0),SV.v (Value.slice none 0 0),SV.v (Value.slice none 0 0),SV.v (Value.slice none 0 0)],SV.v (Value.slice none 0 0),SV.v (qA (141:Int))]) []) →
  (∀ z,xV u (p.rg.drop i) kl ml lF lA ss=some z→FOk Try.prog Try.f16 Q (.at [0,1,0,1,1,1,1,1,1,1,1,1,1,1]::[.blk 8,.at [1,1,1,1,1,1,1,1,1,1,1,1]]) (St.mk [(144,SV.v (qA (0:Int))),(143,SV.v (qA (↑(List.length p.3):Int))),(142,SV.x 0 []),(26,SV.fn (Fn.func 41) [] [SV.p 1 0]),(18,SV.p 1 0),(11,SV.p 2 0),(6,SV.p 3 0),(5,SV.p 4 0),(3,SV.p 5 0)] [HO.ext false (qB.s false 6 (List.length p.3) (cLk p.3)),HO.cells [SV.o 6] 23,HO.cells [SV.o 7,SV.o 8,SV.o 9,SV.o 10] 49,HO.cells [SV.v (Value.slice none 0 0),SV.v (Value.slice none 0 0),SV.v (Value.slice none 0 0),SV.v (Value.slice none 0 0)] 49,HO.cells [SV.x 11 [],SV.x 12 [],SV.x 0 [],SV.x 13 []] 33,HO.cells [SV.v (qA c.1),SV.v (qA c.2),SV.v (qA c.3),SV.x 14 [],SV.x 15 [],SV.x 16 [],SV.x 17 []] 27,HO.rowc 3 1 z.2.2.length (Ct.fn (cI z.2.2)),HO.tbl 44 56 4 z.1.length (tC z.1) none,HO.tbl 44 56 4 z.2.1.length (tC z.2.1) none,HO.rowc 44 1 m (Ct.fn (cT ls)),HO.rowc 103 4 0 (Ct.lit 1 []),HO.ext false (qB.s false 2 (List.length p.1) (cRg p.1)),HO.ext false (qB.s false 2 (List.length p.2) (cTa p.2)),HO.ext false (qB.s false 1 (List.length p.4) (cT p.4)),HO.ext false (qB.s false 7 (List.length c.4) (cN c.4)),HO.ext false (qB.s false 1 (List.length c.5) (cI c.5)),HO.ext false (qB.s false 2 (List.length c.6) (cL c.6)),HO.ext false (qB.s false 2 (List.length c.7) (cK c.7))])) →
  FOk Try.prog Try.f16 Q (.rnd [0,0,1,0,1,1,1,1,1,1,1,1,1] (d+1)::[.blk 4,.at [1,1,1,1,1,1,1,1,1,1]]) (St.mk [(93,SV.v (qA (i:Int))),(92,SV.v (qA (↑(List.length p.1):Int))),(91,SV.x 0 []),(18,SV.p 1 0),(17,SV.m 2),(16,SV.m 3),(11,SV.p 4 0),(10,SV.v (qA u)),(6,SV.p 5 0),(5,SV.p 6 0),(3,SV.p 7 0)] [HO.ext false (qB.s false 2 (List.length p.1) (cRg p.1)),HO.cells [SV.o 8] 23,HO.mp true [IntKind.i64,IntKind.i64] kl (Mc.ints IntKind.u64 ml),HO.mp false [IntKind.i64] [[(2:Int)],[(3:Int)]] (Mc.svs [SV.o 9,SV.o 10]),HO.cells [SV.o 9,SV.o 10,SV.o 11,SV.o 12] 49,HO.cells [SV.v (Value.slice none 0 0),SV.v (Value.slice none 0 0),SV.v (Value.slice none 0 0),SV.v (Value.slice none 0 0)] 49,HO.cells [SV.x 0 [],SV.x 13 [],SV.x 14 [],SV.x 15 []] 33,HO.cells [SV.v (qA c.1),SV.v (qA c.2),SV.v (qA c.3),SV.x 16 [],SV.x 17 [],SV.x 18 [],SV.x 19 []] 27,HO.rowc 3 1 ss.length (Ct.fn (cI ss)),HO.tbl 44 56 4 lF.length (tC lF) none,HO.tbl 44 56 4 lA.length (tC lA) none,HO.rowc 44 1 m (Ct.fn (cT ls)),HO.rowc 103 4 0 (Ct.lit 1 []),HO.ext false (qB.s false 2 (List.length p.2) (cTa p.2)),HO.ext false (qB.s false 6 (List.length p.3) (cLk p.3)),HO.ext false (qB.s false 1 (List.length p.4) (cT p.4)),HO.ext false (qB.s false 7 (List.length c.4) (cN c.4)),HO.ext false (qB.s false 1 (List.length c.5) (cI c.5)),HO.ext false (qB.s false 2 (List.length c.6) (cL c.6)),HO.ext false (qB.s false 2 (List.length c.7) (cK c.7))])
 | 0,i,kl,ml,lF,lA,ss,hd,hl,hlF,hlA,hcF,hcA,hss,hn,hs=>by
  refine FOk.rnd (qE hm 60 ((zLi c p k (tC lF) (tC lA) lF.length lA.length u ls kl ml ss m ss.length i 0 _ _).mpr ⟨?_⟩))
  rw[qF,if_neg (by omega)]
  exact hs (lF,lA,ss) (by rw[show i=p.rg.length by omega,List.drop_length]; rfl)
 | d+1,i,kl,ml,lF,lA,ss,hd,hl,hlF,hlA,hcF,hcA,hss,hn,hs=>by
  have hi:i<p.rg.length:=by omega
  have hg:=hR.r _ (xK hi)
  have hgn:=hg.n
  have hgw:=hg.w
  have hnr:=hR.nr
  rw[qMh hi,xV] at hn hs
  refine FOk.rnd (qE hm 60 ((zLi c p k (tC lF) (tC lA) lF.length lA.length u ls kl ml ss m ss.length i (d+1) _ _).mpr ⟨?_⟩))
  rw[qF,if_pos (by omega)]
  refine aI (aI (And.intro (fun _=>by omega) ⟨⟨p.rg,rfl,IsC.refl _ _ _,hi,by omega,hl,by omega,hu,fun h=>?_,fun s h=>?_⟩⟩))
  ·rw[h] at hn
   exact aI (hn rfl)
  ·rw[h] at hn hs
   obtain⟨hs0,hs1⟩:=qAx h
   have hlen:=qDn s (gRg p.rg i).2 lF lA
   have hle:=qKc hs0 hs1 (gRg p.rg i).2 lF lA hg.x hlF hlA hcF hcA
   have ih:=qPd c p hp k u hR hu0 hu ls m Q d (i+1) (xO (xB (gRg p.rg i).1 s) kl ml (gRg p.rg i).2).1 (xO (xB (gRg p.rg i).1 s) kl ml (gRg p.rg i).2).2 (xZ s (gRg p.rg i).2 lF lA).1 (xZ s (gRg p.rg i).2 lF lA).2 (ss++[s]) (by omega) (qTu _ _ _ _ hl) (by rw[hlen.1]; exact hlF) (by rw[hlen.2]; exact hlA) hle.1 hle.2 (by rw[List.length_append,List.length_singleton]; omega) hn hs
   refine aI (aI (And.intro (fun _=>by omega) ?_))
   refine FOk.loop ((gRg p.rg i).2.length+1) (by kernel_rfl) ?_
   exact FOk.cv (qId c p hp k u hR hu0 hu ls m (ss++[s]).length (xO (xB (gRg p.rg i).1 s) kl ml (gRg p.rg i).2).1 (xO (xB (gRg p.rg i).1 s) kl ml (gRg p.rg i).2).2 (ss++[s]) i hi s hs0 hs1 (d+1) Q (gRg p.rg i).2.length 0 lF lA (by omega) hlF hlA hcF hcA ih) ⟨HE.refl _,HE.refl _,HE.refl _,HE.refl _,HE.refl _,HE.refl _,HE.refl _,HE.refl _,⟨rfl,rfl,by rw[List.length_append]; rfl,qRk s rfl⟩,HE.refl _,HE.refl _,HE.refl _,HE.refl _,HE.refl _,HE.refl _,HE.refl _,HE.refl _,HE.refl _,HE.refl _,HE.refl _,trivial⟩
end Go.Proofs.Ytlmjdcbhpffanaa
/- Layout. -/
namespace Go.Proofs.Ytlmjdcbhpffanaa
open Go.Sx Go.Pl
set_option linter.unusedVariables false
set_option maxRecDepth 100000
theorem zTz(c:Cir)(p:Pln)(k:Int)(gF gA:Nat→Nat×(Nat→Nat→qB))(nF nA:Nat)(u:Int)(ls:List (List Nat))(m i M:Nat)(K:List It→St→Prop)(R:SV→List HO→Prop):W (xwp Try.prog X qMn [] 60 (qO Try.f16 [] [⟨[0,1,0,1,1,1,1],[49,48,47,11,10,6,5,3],[]⟩,⟨[0,1,0,1,1,1,1,1],[64,63,62,11,10,6,5,3],[]⟩,⟨[0,1,0,1,1,1,1,1,1,1,1,1],[93,92,91,18,17,16,11,10,6,5,3],[]⟩,⟨[0,1,1,1,1,1,0,0,1,1,0,0,1,0,1,1,1,1,1,1,1,1,1],[114,113,112,21,93,92,91,18,17,16,11,10,6,5,3],[]⟩,⟨[0,1,0,1,1,1,1,1,1,1,1,1,1,1],[144,143,142,26,18,11,6,5,3],[]⟩]) [] (.at [0,0,1,0,1,1,1,1]::.rnd [0,0,1,0,1,1,1,1] M::[.blk 0,.at [1,1,1,1,1]]) (St.mk [(49,.v (qA (i:Int))),(48,.v (qA (↑p.4.length:Int))),(47,.x 0 []),(11,.p 1 0),(10,.v (qA u)),(6,.p 2 0),(5,.p 3 0),(3,.p 4 0)] [.ext false (.s false 1 p.4.length (cT p.4)),.cells [.o 5,.o 6,.o 7,.o 8] 49,.cells [.v (Value.slice none 0 0),.v (Value.slice none 0 0),.v (Value.slice none 0 0),.v (Value.slice none 0 0)] 49,.cells [.x 9 [],.x 10 [],.x 11 [],.x 0 []] 33,.cells [.v (qA c.1),.v (qA c.2),.v (qA c.3),.x 12 [],.x 13 [],.x 14 [],.x 15 []] 27,HO.tbl 44 56 4 nF gF none,HO.tbl 44 56 4 nA gA none,.rowc 44 1 m (.fn (cT ls)),.rowc 103 4 0 (.lit 1 []),.ext false (.s false 2 p.1.length (cRg p.1)),.ext false (.s false 2 p.2.length (cTa p.2)),.ext false (.s false 6 p.3.length (cLk p.3)),.ext false (.s false 7 c.4.length (cN c.4)),.ext false (.s false 1 c.5.length (cI c.5)),.ext false (.s false 2 c.6.length (cL c.6)),.ext false (.s false 2 c.7.length (cK c.7))]) K R)=W (bif decide ((↑i:Int)<(↑p.4.length:Int)) then(∀ M:Mem,(0:Int)≤(↑i:Int)∧(↑i:Int)<(↑p.4.length:Int))∧(∀ M:Mem,i<List.length p.4)∧(∀ M:Mem,i<List.length p.4)∧∃(l:List Nat),List.length (gT p.4 i)=List.length l∧IsC (List.length (gT p.4 i)) 4 (cE (gT p.4 i)) (cE l)∧List.length l*32≤140737488351232∧(∀ M:Mem,(m+1)*24≤140737488355328∧m+1≤140737488355328)∧(∀ M:Mem,2+1≤4)∧K [.rnd [0,0,1,0,1,1,1,1] M,.blk 0,.at [1,1,1,1,1]] (St.mk [(49,.v (qA (IntKind.wrap .i64 ((↑i:Int)+(1:Int))))),(48,.v (qA (↑p.4.length:Int))),(47,.x 0 []),(11,.p 1 0),(10,.v (qA u)),(6,.p 2 0),(5,.p 3 0),(3,.p 4 0)] [.ext false (.s false 1 p.4.length (cT p.4)),.cells [.o 5,.o 6,.o 7,.o 8] 49,.cells [.v (Value.slice none 0 0),.v (Value.slice none 0 0),.v (Value.slice none 0 0),.v (Value.slice none 0 0)] 49,.cells [.x 9 [],.x 10 [],.x 11 [],.x 0 []] 33,.cells [.v (qA c.1),.v (qA c.2),.v (qA c.3),.x 12 [],.x 13 [],.x 14 [],.x 15 []] 27,HO.tbl 44 56 4 nF gF none,HO.tbl 44 56 4 nA gA none,.rowc 44 1 (m+1) (.app m (.fn (cT ls)) (.lit 1 [.s false 4 l.length (cE l)])),.rowc 103 4 0 (.lit 1 []),.ext false (.s false 2 p.1.length (cRg p.1)),.ext false (.s false 2 p.2.length (cTa p.2)),.ext false (.s false 6 p.3.length (cLk p.3)),.ext false (.s false 7 c.4.length (cN c.4)),.ext false (.s false 1 c.5.length (cI c.5)),.ext false (.s false 2 c.6.length (cL c.6)),.ext false (.s false 2 c.7.length (cK c.7))]) else K [.at [0,1,0,1,1,1,1,1],.blk 2,.at [1,1,1,1,1,1]] (St.mk [(64,.v (qA 0)),(63,.v (qA (↑p.2.length:Int))),(62,.x 0 []),(11,.p 1 0),(10,.v (qA u)),(6,.p 2 0),(5,.p 3 0),(3,.p 4 0)] [.ext false (.s false 2 p.2.length (cTa p.2)),.cells [.o 5,.o 6,.o 7,.o 8] 49,.cells [.v (Value.slice none 0 0),.v (Value.slice none 0 0),.v (Value.slice none 0 0),.v (Value.slice none 0 0)] 49,.cells [.x 9 [],.x 0 [],.x 10 [],.x 11 []] 33,.cells [.v (qA c.1),.v (qA c.2),.v (qA c.3),.x 12 [],.x 13 [],.x 14 [],.x 15 []] 27,HO.tbl 44 56 4 nF gF none,HO.tbl 44 56 4 nA gA none,.rowc 44 1 m (.fn (cT ls)),.rowc 103 4 0 (.lit 1 []),.ext false (.s false 2 p.1.length (cRg p.1)),.ext false (.s false 6 p.3.length (cLk p.3)),.ext false (.s false 1 p.4.length (cT p.4)),.ext false (.s false 7 c.4.length (cN c.4)),.ext false (.s false 1 c.5.length (cI c.5)),.ext false (.s false 2 c.6.length (cL c.6)),.ext false (.s false 2 c.7.length (cK c.7))])):=by kernel_rfl
theorem zKf(c:Cir)(p:Pln)(k:Int)(gF gA:Nat→Nat×(Nat→Nat→qB))(nF nA:Nat)(u:Int)(ls:List (List Nat))(m i M:Nat)(K:List It→St→Prop)(R:SV→List HO→Prop):W (xwp Try.prog X qMn [] 60 (qO Try.f16 [] [⟨[0,1,0,1,1,1,1],[49,48,47,11,10,6,5,3],[]⟩,⟨[0,1,0,1,1,1,1,1],[64,63,62,11,10,6,5,3],[]⟩,⟨[0,1,0,1,1,1,1,1,1,1,1,1],[93,92,91,18,17,16,11,10,6,5,3],[]⟩,⟨[0,1,1,1,1,1,0,0,1,1,0,0,1,0,1,1,1,1,1,1,1,1,1],[114,113,112,21,93,92,91,18,17,16,11,10,6,5,3],[]⟩,⟨[0,1,0,1,1,1,1,1,1,1,1,1,1,1],[144,143,142,26,18,11,6,5,3],[]⟩]) [] (.at [0,0,1,0,1,1,1,1,1]::.rnd [0,0,1,0,1,1,1,1,1] M::[.blk 2,.at [1,1,1,1,1,1]]) (St.mk [(64,.v (qA (i:Int))),(63,.v (qA (↑p.2.length:Int))),(62,.x 0 []),(11,.p 1 0),(10,.v (qA u)),(6,.p 2 0),(5,.p 3 0),(3,.p 4 0)] [.ext false (.s false 2 p.2.length (cTa p.2)),.cells [.o 5,.o 6,.o 7,.o 8] 49,.cells [.v (Value.slice none 0 0),.v (Value.slice none 0 0),.v (Value.slice none 0 0),.v (Value.slice none 0 0)] 49,.cells [.x 9 [],.x 0 [],.x 10 [],.x 11 []] 33,.cells [.v (qA c.1),.v (qA c.2),.v (qA c.3),.x 12 [],.x 13 [],.x 14 [],.x 15 []] 27,HO.tbl 44 56 4 nF gF none,HO.tbl 44 56 4 nA gA none,.rowc 44 1 m (.fn (cT ls)),.rowc 103 4 0 (.lit 1 []),.ext false (.s false 2 p.1.length (cRg p.1)),.ext false (.s false 6 p.3.length (cLk p.3)),.ext false (.s false 1 p.4.length (cT p.4)),.ext false (.s false 7 c.4.length (cN c.4)),.ext false (.s false 1 c.5.length (cI c.5)),.ext false (.s false 2 c.6.length (cL c.6)),.ext false (.s false 2 c.7.length (cK c.7))]) K R)=W (bif decide ((↑i:Int)<(↑p.2.length:Int)) then(∀ M:Mem,(0:Int)≤(↑i:Int)∧(↑i:Int)<(↑p.2.length:Int))∧(∀ M:Mem,i<List.length p.2)∧(∀ M:Mem,0+2≤2)∧(∀ M:Mem,i<List.length p.2)∧bif decide (u<(↑(List.length (gTa p.2 i).2):Int)) then(∀ M:Mem,4≤4)∧R (.tup [.agg [.v (Value.slice none 0 0),.v (Value.slice none 0 0),.v (Value.slice none 0 0),.v (Value.slice none 0 0)],.v (Value.slice none 0 0),.v (qA 141)]) [] else(∀ M:Mem,i<List.length p.2)∧∃(l:List Nat),List.length (gTa p.2 i).2=List.length l∧IsC (List.length (gTa p.2 i).2) 4 (cE (gTa p.2 i).2) (cE l)∧List.length l*32≤140737488351232∧(∀ M:Mem,(0:Int)≤(gTa p.2 i).1∧(gTa p.2 i).1<(↑nF:Int))∧(∀ M:Mem,Int.toNat (gTa p.2 i).1<nF)∧(∀ M:Mem,True)∧K [.rnd [0,0,1,0,1,1,1,1,1] M,.blk 2,.at [1,1,1,1,1,1]] (St.mk [(64,.v (qA (IntKind.wrap .i64 ((↑i:Int)+(1:Int))))),(63,.v (qA (↑p.2.length:Int))),(62,.x 0 []),(11,.p 1 0),(10,.v (qA u)),(6,.p 2 0),(5,.p 3 0),(3,.p 4 0)] [.ext false (.s false 2 p.2.length (cTa p.2)),.cells [.o 5,.o 6,.o 7,.o 8] 49,.cells [.v (Value.slice none 0 0),.v (Value.slice none 0 0),.v (Value.slice none 0 0),.v (Value.slice none 0 0)] 49,.cells [.x 9 [],.x 0 [],.x 10 [],.x 11 []] 33,.cells [.v (qA c.1),.v (qA c.2),.v (qA c.3),.x 12 [],.x 13 [],.x 14 [],.x 15 []] 27,HO.tbl 44 56 4 nF gF (some (Int.toNat (gTa p.2 i).1,16)),HO.tbl 44 56 4 nA gA none,.rowc 44 1 m (.fn (cT ls)),.rowc 103 4 0 (.lit 1 []),.ext false (.s false 2 p.1.length (cRg p.1)),.ext false (.s false 6 p.3.length (cLk p.3)),.ext false (.s false 1 p.4.length (cT p.4)),.ext false (.s false 7 c.4.length (cN c.4)),.ext false (.s false 1 c.5.length (cI c.5)),.ext false (.s false 2 c.6.length (cL c.6)),.ext false (.s false 2 c.7.length (cK c.7)),.rowc 56 4 l.length (.fn (cE l))]) else K [.at [0,1,0,1,1,1,1,1,1,1,1,1],.blk 4,.at [1,1,1,1,1,1,1,1,1,1]] (St.mk [(93,.v (qA 0)),(92,.v (qA (↑p.1.length:Int))),(91,.x 0 []),(18,.p 1 0),(17,.m 2),(16,.m 3),(11,.p 4 0),(10,.v (qA u)),(6,.p 5 0),(5,.p 6 0),(3,.p 7 0)] [.ext false (.s false 2 p.1.length (cRg p.1)),.cells [.v (Value.slice none 0 0)] 23,.mp true [IntKind.i64,IntKind.i64] [] (Mc.ints IntKind.u64 []),.mp false [IntKind.i64] [[(2:Int)],[(3:Int)]] (Mc.svs [.o 8,.o 9]),.cells [.o 8,.o 9,.o 10,.o 11] 49,.cells [.v (Value.slice none 0 0),.v (Value.slice none 0 0),.v (Value.slice none 0 0),.v (Value.slice none 0 0)] 49,.cells [.x 0 [],.x 12 [],.x 13 [],.x 14 []] 33,.cells [.v (qA c.1),.v (qA c.2),.v (qA c.3),.x 15 [],.x 16 [],.x 17 [],.x 18 []] 27,HO.tbl 44 56 4 nF gF none,HO.tbl 44 56 4 nA gA none,.rowc 44 1 m (.fn (cT ls)),.rowc 103 4 0 (.lit 1 []),.ext false (.s false 2 p.2.length (cTa p.2)),.ext false (.s false 6 p.3.length (cLk p.3)),.ext false (.s false 1 p.4.length (cT p.4)),.ext false (.s false 7 c.4.length (cN c.4)),.ext false (.s false 1 c.5.length (cI c.5)),.ext false (.s false 2 c.6.length (cL c.6)),.ext false (.s false 2 c.7.length (cK c.7))])):=by kernel_rfl
theorem qQe(c:Cir)(p:Pln)(hp:p.ok)(k u:Int)(gF gA:Nat→Nat×(Nat→Nat→qB))(nF nA:Nat)(Q:SV→List HO→Prop)(hq:FOk Try.prog Try.f16 Q (.at [0,1,0,1,1,1,1,1]::[.blk 2,.at [1,1,1,1,1,1]]) (St.mk [(64,SV.v (qA (0:Int))),(63,SV.v (qA (↑(List.length p.2):Int))),(62,SV.x 0 []),(11,SV.p 1 0),(10,SV.v (qA u)),(6,SV.p 2 0),(5,SV.p 3 0),(3,SV.p 4 0)] [HO.ext false (qB.s false 2 (List.length p.2) (cTa p.2)),HO.cells [SV.o 5,SV.o 6,SV.o 7,SV.o 8] 49,HO.cells [SV.v (Value.slice none 0 0),SV.v (Value.slice none 0 0),SV.v (Value.slice none 0 0),SV.v (Value.slice none 0 0)] 49,HO.cells [SV.x 9 [],SV.x 0 [],SV.x 10 [],SV.x 11 []] 33,HO.cells [SV.v (qA c.1),SV.v (qA c.2),SV.v (qA c.3),SV.x 12 [],SV.x 13 [],SV.x 14 [],SV.x 15 []] 27,HO.tbl 44 56 4 nF gF none,HO.tbl 44 56 4 nA gA none,HO.rowc 44 1 p.is.length (Ct.fn (cT p.is)),HO.rowc 103 4 0 (Ct.lit 1 []),HO.ext false (qB.s false 2 (List.length p.1) (cRg p.1)),HO.ext false (qB.s false 6 (List.length p.3) (cLk p.3)),HO.ext false (qB.s false 1 (List.length p.4) (cT p.4)),HO.ext false (qB.s false 7 (List.length c.4) (cN c.4)),HO.ext false (qB.s false 1 (List.length c.5) (cI c.5)),HO.ext false (qB.s false 2 (List.length c.6) (cL c.6)),HO.ext false (qB.s false 2 (List.length c.7) (cK c.7))])):∀(d i:Nat) (ls:List (List Nat)),i+d=p.is.length→ls=p.is.take i →
  FOk Try.prog Try.f16 Q (.rnd [0,0,1,0,1,1,1,1] (d+1)::[.blk 0,.at [1,1,1,1,1]]) (St.mk [(49,SV.v (qA (i:Int))),(48,SV.v (qA (↑(List.length p.4):Int))),(47,SV.x 0 []),(11,SV.p 1 0),(10,SV.v (qA u)),(6,SV.p 2 0),(5,SV.p 3 0),(3,SV.p 4 0)] [HO.ext false (qB.s false 1 (List.length p.4) (cT p.4)),HO.cells [SV.o 5,SV.o 6,SV.o 7,SV.o 8] 49,HO.cells [SV.v (Value.slice none 0 0),SV.v (Value.slice none 0 0),SV.v (Value.slice none 0 0),SV.v (Value.slice none 0 0)] 49,HO.cells [SV.x 9 [],SV.x 10 [],SV.x 11 [],SV.x 0 []] 33,HO.cells [SV.v (qA c.1),SV.v (qA c.2),SV.v (qA c.3),SV.x 12 [],SV.x 13 [],SV.x 14 [],SV.x 15 []] 27,HO.tbl 44 56 4 nF gF none,HO.tbl 44 56 4 nA gA none,HO.rowc 44 1 ls.length (Ct.fn (cT ls)),HO.rowc 103 4 0 (Ct.lit 1 []),HO.ext false (qB.s false 2 (List.length p.1) (cRg p.1)),HO.ext false (qB.s false 2 (List.length p.2) (cTa p.2)),HO.ext false (qB.s false 6 (List.length p.3) (cLk p.3)),HO.ext false (qB.s false 7 (List.length c.4) (cN c.4)),HO.ext false (qB.s false 1 (List.length c.5) (cI c.5)),HO.ext false (qB.s false 2 (List.length c.6) (cL c.6)),HO.ext false (qB.s false 2 (List.length c.7) (cK c.7))])
 | 0,i,ls,hd,hl=>by
  refine FOk.rnd (qE hm 60 ((zTz c p k gF gA nF nA u ls ls.length i 0 _ _).mpr ⟨?_⟩))
  rw[qF,if_neg (by omega)]
  obtain rfl:ls=p.is:=by rw[hl,show i=p.is.length by omega,List.take_length]
  exact hq
 | d+1,i,ls,hd,hl=>by
  have hi:i<p.is.length:=by omega
  have hlen:ls.length=i:=by rw[hl,List.length_take]; omega
  have hb:=hp.i.2
  have hb2:=(hp.i.1 _ (qBt hi)).2
  have ih:=qQe c p hp k u gF gA nF nA Q hq d (i+1) (ls++[gT p.is i]) (by omega) (by rw[hl,qZr hi])
  refine FOk.rnd (qE hm 60 ((zTz c p k gF gA nF nA u ls ls.length i (d+1) _ _).mpr ⟨?_⟩))
  rw[qF,if_pos (by omega),qN _ (by omega)]
  refine aI (aI (And.intro (fun _=>by omega) ⟨gT p.is i,rfl,IsC.refl _ _ _,hb2,fun _=>by omega,fun _=>by omega,?_⟩))
  exact FOk.cv ih ⟨HE.refl _,HE.refl _,HE.refl _,HE.refl _,HE.refl _,HE.refl _,HE.refl _,⟨rfl,rfl,by rw[List.length_append]; rfl,zAw _ rfl⟩,HE.refl _,HE.refl _,HE.refl _,HE.refl _,HE.refl _,HE.refl _,HE.refl _,HE.refl _,trivial⟩
theorem qPw(c:Cir)(p:Pln)(hp:p.ok)(k u:Int)(hR:plR c p u)(gA:Nat→Nat×(Nat→Nat→qB))(nA m:Nat)(ls:List (List Nat))(hu:u≤1000000)(Q:SV→List HO→Prop):∀(d i:Nat) (lF:List (List Nat)),i+d=p.tb.length→lF.length=c.fx.toNat→(qAk u (p.tb.drop i) lF=none→Q (SV.tup [SV.agg [SV.v (Value.slice none 0 0),SV.v (Value.slice none 0 0),SV.v (Value.slice none 0 0),SV.v (Value.slice none 0 0)],SV.v (Value.slice none 0 0),SV.v (qA (141:Int))]) []) →
  (∀ lF',qAk u (p.tb.drop i) lF=some lF'→lF'.length=c.fx.toNat→FOk Try.prog Try.f16 Q (.at [0,1,0,1,1,1,1,1,1,1,1,1]::[.blk 4,.at [1,1,1,1,1,1,1,1,1,1]]) (St.mk [(93,SV.v (qA (0:Int))),(92,SV.v (qA (↑(List.length p.1):Int))),(91,SV.x 0 []),(18,SV.p 1 0),(17,SV.m 2),(16,SV.m 3),(11,SV.p 4 0),(10,SV.v (qA u)),(6,SV.p 5 0),(5,SV.p 6 0),(3,SV.p 7 0)] [HO.ext false (qB.s false 2 (List.length p.1) (cRg p.1)),HO.cells [SV.v (Value.slice none 0 0)] 23,HO.mp true [IntKind.i64,IntKind.i64] [] (Mc.ints IntKind.u64 []),HO.mp false [IntKind.i64] [[(2:Int)],[(3:Int)]] (Mc.svs [SV.o 8,SV.o 9]),HO.cells [SV.o 8,SV.o 9,SV.o 10,SV.o 11] 49,HO.cells [SV.v (Value.slice none 0 0),SV.v (Value.slice none 0 0),SV.v (Value.slice none 0 0),SV.v (Value.slice none 0 0)] 49,HO.cells [SV.x 0 [],SV.x 12 [],SV.x 13 [],SV.x 14 []] 33,HO.cells [SV.v (qA c.1),SV.v (qA c.2),SV.v (qA c.3),SV.x 15 [],SV.x 16 [],SV.x 17 [],SV.x 18 []] 27,HO.tbl 44 56 4 lF'.length (tC lF') none,HO.tbl 44 56 4 nA gA none,HO.rowc 44 1 m (Ct.fn (cT ls)),HO.rowc 103 4 0 (Ct.lit 1 []),HO.ext false (qB.s false 2 (List.length p.2) (cTa p.2)),HO.ext false (qB.s false 6 (List.length p.3) (cLk p.3)),HO.ext false (qB.s false 1 (List.length p.4) (cT p.4)),HO.ext false (qB.s false 7 (List.length c.4) (cN c.4)),HO.ext false (qB.s false 1 (List.length c.5) (cI c.5)),HO.ext false (qB.s false 2 (List.length c.6) (cL c.6)),HO.ext false (qB.s false 2 (List.length c.7) (cK c.7))])) →
  FOk Try.prog Try.f16 Q (.rnd [0,0,1,0,1,1,1,1,1] (d+1)::[.blk 2,.at [1,1,1,1,1,1]]) (St.mk [(64,SV.v (qA (i:Int))),(63,SV.v (qA (↑(List.length p.2):Int))),(62,SV.x 0 []),(11,SV.p 1 0),(10,SV.v (qA u)),(6,SV.p 2 0),(5,SV.p 3 0),(3,SV.p 4 0)] [HO.ext false (qB.s false 2 (List.length p.2) (cTa p.2)),HO.cells [SV.o 5,SV.o 6,SV.o 7,SV.o 8] 49,HO.cells [SV.v (Value.slice none 0 0),SV.v (Value.slice none 0 0),SV.v (Value.slice none 0 0),SV.v (Value.slice none 0 0)] 49,HO.cells [SV.x 9 [],SV.x 0 [],SV.x 10 [],SV.x 11 []] 33,HO.cells [SV.v (qA c.1),SV.v (qA c.2),SV.v (qA c.3),SV.x 12 [],SV.x 13 [],SV.x 14 [],SV.x 15 []] 27,HO.tbl 44 56 4 lF.length (tC lF) none,HO.tbl 44 56 4 nA gA none,HO.rowc 44 1 m (Ct.fn (cT ls)),HO.rowc 103 4 0 (Ct.lit 1 []),HO.ext false (qB.s false 2 (List.length p.1) (cRg p.1)),HO.ext false (qB.s false 6 (List.length p.3) (cLk p.3)),HO.ext false (qB.s false 1 (List.length p.4) (cT p.4)),HO.ext false (qB.s false 7 (List.length c.4) (cN c.4)),HO.ext false (qB.s false 1 (List.length c.5) (cI c.5)),HO.ext false (qB.s false 2 (List.length c.6) (cL c.6)),HO.ext false (qB.s false 2 (List.length c.7) (cK c.7))])
 | 0,i,lF,hd,hl,hn,hs=>by
  refine FOk.rnd (qE hm 60 ((zKf c p k (tC lF) gA lF.length nA u ls m i 0 _ _).mpr ⟨?_⟩))
  rw[qF,if_neg (by omega)]
  exact hs lF (by rw[show i=p.tb.length by omega,List.drop_length]; rfl) hl
 | d+1,i,lF,hd,hl,hn,hs=>by
  have hi:i<p.tb.length:=by omega
  rw[qHs hi,qAk] at hn hs
  have hb:=hp.t.2
  have hb2:=(hp.t.1 _ (qBd hi)).2.2
  have hc:=hR.t _ (qBd hi)
  refine FOk.rnd (qE hm 60 ((zKf c p k (tC lF) gA lF.length nA u ls m i (d+1) _ _).mpr ⟨?_⟩))
  rw[qF,if_pos (by omega),qF,qN _ (by omega)]
  refine aI (aI (aI (aI (qH (fun h=>?_) (fun h=>?_)))))
  ·rw[if_pos h] at hn
   exact aI (hn rfl)
  ·rw[if_neg h] at hn hs
   refine And.intro (fun _=>by omega) ⟨(gTa p.tb i).2,rfl,IsC.refl _ _ _,hb2,fun _=>by omega,fun _=>by omega,fun _=>trivial,?_⟩
   have hk:(gTa p.tb i).1.toNat<lF.length:=by omega
   have ih:=qPw c p hp k u hR gA nA m ls hu Q d (i+1) (lF.set (gTa p.tb i).1.toNat (gTa p.tb i).2) (by omega) (by rw[List.length_set]; exact hl) hn hs
   rw[List.length_set] at ih
   refine FOk.unfocus 5 16 _ rfl rfl (by decide) ?_
   rw[qRm hk (gTa p.tb i).2]
   exact FOk.norm (ks:=[64,63,62,11,10,6,5,3]) (nl:=[]) (by kernel_rfl) ih
end Go.Proofs.Ytlmjdcbhpffanaa
/- Layout: links. -/
namespace Go.Proofs.Ytlmjdcbhpffanaa
open Go.Sx Go.Pl
set_option linter.unusedVariables false
set_option maxRecDepth 100000
theorem zSl(c:Cir)(p:Pln)(k:Int)(lF lA:List (List Nat))(ls:List (List Nat))(ss:List Int)(cs:List (Int×Int×Int×Int))(m ms nc i M:Nat)(K:List It→St→Prop)(R:SV→List HO→Prop):W (xwp Try.prog X zRp [(41,[])] 60 (qO Try.f16 [] [⟨[0,1,0,1,1,1,1],[49,48,47,11,10,6,5,3],[]⟩,⟨[0,1,0,1,1,1,1,1],[64,63,62,11,10,6,5,3],[]⟩,⟨[0,1,0,1,1,1,1,1,1,1,1,1],[93,92,91,18,17,16,11,10,6,5,3],[]⟩,⟨[0,1,1,1,1,1,0,0,1,1,0,0,1,0,1,1,1,1,1,1,1,1,1],[114,113,112,21,93,92,91,18,17,16,11,10,6,5,3],[]⟩,⟨[0,1,0,1,1,1,1,1,1,1,1,1,1,1],[144,143,142,26,18,11,6,5,3],[]⟩]) [] (.at [0,0,1,0,1,1,1,1,1,1,1,1,1,1,1]::.rnd [0,0,1,0,1,1,1,1,1,1,1,1,1,1,1] M::[.blk 8,.at [1,1,1,1,1,1,1,1,1,1,1,1]]) (St.mk [(144,.v (qA (i:Int))),(143,.v (qA (↑p.3.length:Int))),(142,.x 0 []),(26,SV.fn (Fn.func 41) [] [.p 1 0]),(18,.p 1 0),(11,.p 2 0),(6,.p 3 0),(5,.p 4 0),(3,.p 5 0)] [.ext false (.s false 6 p.3.length (cLk p.3)),.cells [.x 6 []] 23,.cells [.x 7 [],.x 8 [],.x 9 [],.o 10] 49,.cells [.v (Value.slice none 0 0),.v (Value.slice none 0 0),.v (Value.slice none 0 0),.v (Value.slice none 0 0)] 49,.cells [.x 11 [],.x 12 [],.x 0 [],.x 13 []] 33,.cells [.v (qA c.1),.v (qA c.2),.v (qA c.3),.x 14 [],.x 15 [],.x 16 [],.x 17 []] 27,.ext false (.s false 1 ms (cI ss)),.ext false (.s false 1 lF.length (cT lF)),.ext false (.s false 1 lA.length (cT lA)),.ext false (.s false 1 m (cT ls)),.rowc 103 4 nc (.fn (cP cs)),.ext false (.s false 2 p.1.length (cRg p.1)),.ext false (.s false 2 p.2.length (cTa p.2)),.ext false (.s false 1 p.4.length (cT p.4)),.ext false (.s false 7 c.4.length (cN c.4)),.ext false (.s false 1 c.5.length (cI c.5)),.ext false (.s false 2 c.6.length (cL c.6)),.ext false (.s false 2 c.7.length (cK c.7))]) K R)=W (bif decide ((↑i:Int)<(↑p.3.length:Int)) then(∀ M:Mem,(0:Int)≤(↑i:Int)∧(↑i:Int)<(↑p.3.length:Int))∧(∀ M:Mem,i<List.length p.3)∧(∀ M:Mem,0+6≤6)∧bif decide ((0:Int)≤(gLk p.3 i).1.1) then(∀ M:Mem,0<1)∧(∀ M:Mem,0<1)∧(∀ M:Mem,(0:Int)≤(gLk p.3 i).1.1∧(gLk p.3 i).1.1<(↑ms:Int))∧(∀ M:Mem,0<1)∧(∀ M:Mem,Int.toNat (gLk p.3 i).1.1<ms)∧(∀ M:Mem,2+1≤3)∧(∀ M:Mem,0+2≤2)∧bif decide ((0:Int)≤(gLk p.3 i).2.1) then(∀ M:Mem,0<1)∧(∀ M:Mem,0<1)∧(∀ M:Mem,(0:Int)≤(gLk p.3 i).2.1∧(gLk p.3 i).2.1<(↑ms:Int))∧(∀ M:Mem,0<1)∧(∀ M:Mem,Int.toNat (gLk p.3 i).2.1<ms)∧(∀ M:Mem,2+1≤3)∧(∀ M:Mem,0+2≤2)∧(∀ M:Mem,(nc+1)*32≤140737488355328∧nc+1≤140737488355328)∧(∀ M:Mem,3+1≤4)∧K [.rnd [0,0,1,0,1,1,1,1,1,1,1,1,1,1,1] M,.blk 8,.at [1,1,1,1,1,1,1,1,1,1,1,1]] (St.mk [(144,.v (qA (IntKind.wrap .i64 ((↑i:Int)+(1:Int))))),(143,.v (qA (↑p.3.length:Int))),(142,.x 0 []),(26,SV.fn (Fn.func 41) [] [.p 1 0]),(18,.p 1 0),(11,.p 2 0),(6,.p 3 0),(5,.p 4 0),(3,.p 5 0)] [.ext false (.s false 6 p.3.length (cLk p.3)),.cells [.x 6 []] 23,.cells [.x 7 [],.x 8 [],.x 9 [],.o 10] 49,.cells [.v (Value.slice none 0 0),.v (Value.slice none 0 0),.v (Value.slice none 0 0),.v (Value.slice none 0 0)] 49,.cells [.x 11 [],.x 12 [],.x 0 [],.x 13 []] 33,.cells [.v (qA c.1),.v (qA c.2),.v (qA c.3),.x 14 [],.x 15 [],.x 16 [],.x 17 []] 27,.ext false (.s false 1 ms (cI ss)),.ext false (.s false 1 lF.length (cT lF)),.ext false (.s false 1 lA.length (cT lA)),.ext false (.s false 1 m (cT ls)),.rowc 103 4 (nc+1) (.app nc (.fn (cP cs)) (.lit 4 [.v (qA (gLk p.3 i).1.2.1),.v (qA (IntKind.wrap .i64 ((gLk p.3 i).1.2.2+gI ss (Int.toNat (gLk p.3 i).1.1)))),.v (qA (gLk p.3 i).2.2.1),.v (qA (IntKind.wrap .i64 ((gLk p.3 i).2.2.2+gI ss (Int.toNat (gLk p.3 i).2.1))))])),.ext false (.s false 2 p.1.length (cRg p.1)),.ext false (.s false 2 p.2.length (cTa p.2)),.ext false (.s false 1 p.4.length (cT p.4)),.ext false (.s false 7 c.4.length (cN c.4)),.ext false (.s false 1 c.5.length (cI c.5)),.ext false (.s false 2 c.6.length (cL c.6)),.ext false (.s false 2 c.7.length (cK c.7))]) else(∀ M:Mem,0+2≤2)∧(∀ M:Mem,(nc+1)*32≤140737488355328∧nc+1≤140737488355328)∧(∀ M:Mem,3+1≤4)∧K [.rnd [0,0,1,0,1,1,1,1,1,1,1,1,1,1,1] M,.blk 8,.at [1,1,1,1,1,1,1,1,1,1,1,1]] (St.mk [(144,.v (qA (IntKind.wrap .i64 ((↑i:Int)+(1:Int))))),(143,.v (qA (↑p.3.length:Int))),(142,.x 0 []),(26,SV.fn (Fn.func 41) [] [.p 1 0]),(18,.p 1 0),(11,.p 2 0),(6,.p 3 0),(5,.p 4 0),(3,.p 5 0)] [.ext false (.s false 6 p.3.length (cLk p.3)),.cells [.x 6 []] 23,.cells [.x 7 [],.x 8 [],.x 9 [],.o 10] 49,.cells [.v (Value.slice none 0 0),.v (Value.slice none 0 0),.v (Value.slice none 0 0),.v (Value.slice none 0 0)] 49,.cells [.x 11 [],.x 12 [],.x 0 [],.x 13 []] 33,.cells [.v (qA c.1),.v (qA c.2),.v (qA c.3),.x 14 [],.x 15 [],.x 16 [],.x 17 []] 27,.ext false (.s false 1 ms (cI ss)),.ext false (.s false 1 lF.length (cT lF)),.ext false (.s false 1 lA.length (cT lA)),.ext false (.s false 1 m (cT ls)),.rowc 103 4 (nc+1) (.app nc (.fn (cP cs)) (.lit 4 [.v (qA (gLk p.3 i).1.2.1),.v (qA (IntKind.wrap .i64 ((gLk p.3 i).1.2.2+gI ss (Int.toNat (gLk p.3 i).1.1)))),.v (qA (gLk p.3 i).2.2.1),.v (qA (gLk p.3 i).2.2.2)])),.ext false (.s false 2 p.1.length (cRg p.1)),.ext false (.s false 2 p.2.length (cTa p.2)),.ext false (.s false 1 p.4.length (cT p.4)),.ext false (.s false 7 c.4.length (cN c.4)),.ext false (.s false 1 c.5.length (cI c.5)),.ext false (.s false 2 c.6.length (cL c.6)),.ext false (.s false 2 c.7.length (cK c.7))]) else(∀ M:Mem,0+2≤2)∧bif decide ((0:Int)≤(gLk p.3 i).2.1) then(∀ M:Mem,0<1)∧(∀ M:Mem,0<1)∧(∀ M:Mem,(0:Int)≤(gLk p.3 i).2.1∧(gLk p.3 i).2.1<(↑ms:Int))∧(∀ M:Mem,0<1)∧(∀ M:Mem,Int.toNat (gLk p.3 i).2.1<ms)∧(∀ M:Mem,2+1≤3)∧(∀ M:Mem,0+2≤2)∧(∀ M:Mem,(nc+1)*32≤140737488355328∧nc+1≤140737488355328)∧(∀ M:Mem,3+1≤4)∧K [.rnd [0,0,1,0,1,1,1,1,1,1,1,1,1,1,1] M,.blk 8,.at [1,1,1,1,1,1,1,1,1,1,1,1]] (St.mk [(144,.v (qA (IntKind.wrap .i64 ((↑i:Int)+(1:Int))))),(143,.v (qA (↑p.3.length:Int))),(142,.x 0 []),(26,SV.fn (Fn.func 41) [] [.p 1 0]),(18,.p 1 0),(11,.p 2 0),(6,.p 3 0),(5,.p 4 0),(3,.p 5 0)] [.ext false (.s false 6 p.3.length (cLk p.3)),.cells [.x 6 []] 23,.cells [.x 7 [],.x 8 [],.x 9 [],.o 10] 49,.cells [.v (Value.slice none 0 0),.v (Value.slice none 0 0),.v (Value.slice none 0 0),.v (Value.slice none 0 0)] 49,.cells [.x 11 [],.x 12 [],.x 0 [],.x 13 []] 33,.cells [.v (qA c.1),.v (qA c.2),.v (qA c.3),.x 14 [],.x 15 [],.x 16 [],.x 17 []] 27,.ext false (.s false 1 ms (cI ss)),.ext false (.s false 1 lF.length (cT lF)),.ext false (.s false 1 lA.length (cT lA)),.ext false (.s false 1 m (cT ls)),.rowc 103 4 (nc+1) (.app nc (.fn (cP cs)) (.lit 4 [.v (qA (gLk p.3 i).1.2.1),.v (qA (gLk p.3 i).1.2.2),.v (qA (gLk p.3 i).2.2.1),.v (qA (IntKind.wrap .i64 ((gLk p.3 i).2.2.2+gI ss (Int.toNat (gLk p.3 i).2.1))))])),.ext false (.s false 2 p.1.length (cRg p.1)),.ext false (.s false 2 p.2.length (cTa p.2)),.ext false (.s false 1 p.4.length (cT p.4)),.ext false (.s false 7 c.4.length (cN c.4)),.ext false (.s false 1 c.5.length (cI c.5)),.ext false (.s false 2 c.6.length (cL c.6)),.ext false (.s false 2 c.7.length (cK c.7))]) else(∀ M:Mem,0+2≤2)∧(∀ M:Mem,(nc+1)*32≤140737488355328∧nc+1≤140737488355328)∧(∀ M:Mem,3+1≤4)∧K [.rnd [0,0,1,0,1,1,1,1,1,1,1,1,1,1,1] M,.blk 8,.at [1,1,1,1,1,1,1,1,1,1,1,1]] (St.mk [(144,.v (qA (IntKind.wrap .i64 ((↑i:Int)+(1:Int))))),(143,.v (qA (↑p.3.length:Int))),(142,.x 0 []),(26,SV.fn (Fn.func 41) [] [.p 1 0]),(18,.p 1 0),(11,.p 2 0),(6,.p 3 0),(5,.p 4 0),(3,.p 5 0)] [.ext false (.s false 6 p.3.length (cLk p.3)),.cells [.x 6 []] 23,.cells [.x 7 [],.x 8 [],.x 9 [],.o 10] 49,.cells [.v (Value.slice none 0 0),.v (Value.slice none 0 0),.v (Value.slice none 0 0),.v (Value.slice none 0 0)] 49,.cells [.x 11 [],.x 12 [],.x 0 [],.x 13 []] 33,.cells [.v (qA c.1),.v (qA c.2),.v (qA c.3),.x 14 [],.x 15 [],.x 16 [],.x 17 []] 27,.ext false (.s false 1 ms (cI ss)),.ext false (.s false 1 lF.length (cT lF)),.ext false (.s false 1 lA.length (cT lA)),.ext false (.s false 1 m (cT ls)),.rowc 103 4 (nc+1) (.app nc (.fn (cP cs)) (.lit 4 [.v (qA (gLk p.3 i).1.2.1),.v (qA (gLk p.3 i).1.2.2),.v (qA (gLk p.3 i).2.2.1),.v (qA (gLk p.3 i).2.2.2)])),.ext false (.s false 2 p.1.length (cRg p.1)),.ext false (.s false 2 p.2.length (cTa p.2)),.ext false (.s false 1 p.4.length (cT p.4)),.ext false (.s false 7 c.4.length (cN c.4)),.ext false (.s false 1 c.5.length (cI c.5)),.ext false (.s false 2 c.6.length (cL c.6)),.ext false (.s false 2 c.7.length (cK c.7))]) else((∀ M:Mem,4≤4)∧R (.tup [.agg [.x 0 [],.x 1 [],.x 2 [],.o 3],.x 4 [],.v (qA 0)]) [.ext false (.s false 1 lF.length (cT lF)),.ext false (.s false 1 lA.length (cT lA)),.ext false (.s false 1 m (cT ls)),.rowc 103 4 nc (.fn (cP cs)),.ext false (.s false 1 ms (cI ss))])∧((∀ M:Mem,4≤4)∧R (.tup [.agg [.x 0 [],.x 1 [],.x 2 [],.o 3],.x 4 [],.v (qA 0)]) [.ext false (.s false 1 lF.length (cT lF)),.ext false (.s false 1 lA.length (cT lA)),.ext false (.s false 1 m (cT ls)),.rowc 103 4 nc (.fn (cP cs)),.ext false (.s false 1 ms (cI ss))])∧(∀ M:Mem,4≤4)∧R (.tup [.agg [.x 0 [],.x 1 [],.x 2 [],.o 3],.x 4 [],.v (qA 0)]) [.ext false (.s false 1 lF.length (cT lF)),.ext false (.s false 1 lA.length (cT lA)),.ext false (.s false 1 m (cT ls)),.rowc 103 4 nc (.fn (cP cs)),.ext false (.s false 1 ms (cI ss))]):=by kernel_rfl
theorem qPn(c:Cir)(p:Pln)(k u:Int)(hR:plR c p u)(hu0:0≤u)(hu:u≤1000000)(lF lA:List (List Nat))(ss:List Int)(hsl:ss.length=p.rg.length)(hsb:∀ s∈ss,0≤s∧s≤u)(hrb:∀ r∈p.rg,r.1≤u)(Q:SV→List HO→Prop)(hq:Q (SV.tup [SV.agg [SV.x 0 [],SV.x 1 [],SV.x 2 [],SV.o 3],SV.x 4 [],SV.v (qA (0:Int))]) [HO.ext false (qB.s false 1 lF.length (cT lF)),HO.ext false (qB.s false 1 lA.length (cT lA)),HO.ext false (qB.s false 1 p.is.length (cT p.is)),HO.rowc 103 4 (wG ss p.lk).length (Ct.fn (cP (wG ss p.lk))),HO.ext false (qB.s false 1 ss.length (cI ss))]):∀(d i:Nat) (cs:List (Int×Int×Int×Int)),i+d=p.lk.length→cs=wG ss (p.lk.take i) →
  FOk Try.prog Try.f16 Q (.rnd [0,0,1,0,1,1,1,1,1,1,1,1,1,1,1] (d+1)::[.blk 8,.at [1,1,1,1,1,1,1,1,1,1,1,1]]) (St.mk [(144,SV.v (qA (i:Int))),(143,SV.v (qA (↑(List.length p.3):Int))),(142,SV.x 0 []),(26,SV.fn (Fn.func 41) [] [SV.p 1 0]),(18,SV.p 1 0),(11,SV.p 2 0),(6,SV.p 3 0),(5,SV.p 4 0),(3,SV.p 5 0)] [HO.ext false (qB.s false 6 (List.length p.3) (cLk p.3)),HO.cells [SV.x 6 []] 23,HO.cells [SV.x 7 [],SV.x 8 [],SV.x 9 [],SV.o 10] 49,HO.cells [SV.v (Value.slice none 0 0),SV.v (Value.slice none 0 0),SV.v (Value.slice none 0 0),SV.v (Value.slice none 0 0)] 49,HO.cells [SV.x 11 [],SV.x 12 [],SV.x 0 [],SV.x 13 []] 33,HO.cells [SV.v (qA c.1),SV.v (qA c.2),SV.v (qA c.3),SV.x 14 [],SV.x 15 [],SV.x 16 [],SV.x 17 []] 27,HO.ext false (qB.s false 1 ss.length (cI ss)),HO.ext false (qB.s false 1 lF.length (cT lF)),HO.ext false (qB.s false 1 lA.length (cT lA)),HO.ext false (qB.s false 1 p.is.length (cT p.is)),HO.rowc 103 4 cs.length (Ct.fn (cP cs)),HO.ext false (qB.s false 2 (List.length p.1) (cRg p.1)),HO.ext false (qB.s false 2 (List.length p.2) (cTa p.2)),HO.ext false (qB.s false 1 (List.length p.4) (cT p.4)),HO.ext false (qB.s false 7 (List.length c.4) (cN c.4)),HO.ext false (qB.s false 1 (List.length c.5) (cI c.5)),HO.ext false (qB.s false 2 (List.length c.6) (cL c.6)),HO.ext false (qB.s false 2 (List.length c.7) (cK c.7))])
 | 0,i,cs,hd,hc=>by
  refine FOk.rnd (qE hm 60 ((zSl c p k lF lA p.is ss cs p.is.length ss.length cs.length i 0 _ _).mpr ⟨?_⟩))
  rw[qF,if_neg (by omega)]
  rw[show i=p.lk.length by omega,List.take_length] at hc
  subst hc
  repeat' (first | refine And.intro (fun _=>by omega) ?_ | refine And.intro ?_ ?_)
  all_goals exact hq
 | d+1,i,cs,hd,hc=>by
  have hi:i<p.lk.length:=by omega
  have hl:=hR.nl
  obtain⟨ha,hb⟩:=hR.l _ (zHu hi)
  have hcl:cs.length=i:=by rw[hc,wG,List.length_map,List.length_take]; omega
  have hg1:=zKo hsb hu0 (gLk p.lk i).1.1.toNat
  have hg2:=zKo hsb hu0 (gLk p.lk i).2.1.toNat
  have a1:=ha.r0
  have a2:=ha.r1
  have a3:=ha.o0
  have a4:=ha.o1
  have a5:=ha.o2
  have b1:=hb.r0
  have b2:=hb.r1
  have b3:=hb.o0
  have b4:=hb.o1
  have b5:=hb.o2
  have a6:(gLk p.lk i).1.2.2≤u:=by
   rcases Int.lt_or_le (gLk p.lk i).1.1 0 with h | h
   ·have:=a4 h; omega
   ·have:=a5 h
    have:=hrb _ (xK (l:=p.rg) (k:=(gLk p.lk i).1.1.toNat) (by omega))
    omega
  have b6:(gLk p.lk i).2.2.2≤u:=by
   rcases Int.lt_or_le (gLk p.lk i).2.1 0 with h | h
   ·have:=b4 h; omega
   ·have:=b5 h
    have:=hrb _ (xK (l:=p.rg) (k:=(gLk p.lk i).2.1.toNat) (by omega))
    omega
  have e1:(wG ss (p.lk.take (i+1)))=cs++[((qAf ss (gLk p.lk i).1).1,(qAf ss (gLk p.lk i).1).2,(qAf ss (gLk p.lk i).2).1,(qAf ss (gLk p.lk i).2).2)]:=by rw[zFw hi,hc,wG,wG,List.map_append]; rfl
  have ih:=qPn c p k u hR hu0 hu lF lA ss hsl hsb hrb Q hq d (i+1) (wG ss (p.lk.take (i+1))) (by omega) rfl
  rw[e1] at ih
  refine FOk.rnd (qE hm 60 ((zSl c p k lF lA p.is ss cs p.is.length ss.length cs.length i (d+1) _ _).mpr ⟨?_⟩))
  rw[qF,if_pos (by omega),qN _ (by omega),jA ((gLk p.lk i).1.2.2+gI ss (Int.toNat (gLk p.lk i).1.1)) (by omega),jA ((gLk p.lk i).2.2.2+gI ss (Int.toNat (gLk p.lk i).2.1)) (by omega)]
  refine aI (aI (And.intro (fun _=>by omega) ?_))
  rw[qF]
  refine qH (fun h1=>?_) (fun h1=>?_)
  ·repeat' (refine And.intro (fun _=>by omega) ?_)
   rw[qF]
   rw[qAf,if_pos h1] at ih
   refine qH (fun h2=>?_) (fun h2=>?_)
   ·rw[qAf,if_pos h2] at ih
    repeat' (refine And.intro (fun _=>by omega) ?_)
    exact FOk.cv ih ⟨HE.refl _,HE.refl _,HE.refl _,HE.refl _,HE.refl _,HE.refl _,HE.refl _,HE.refl _,HE.refl _,HE.refl _,⟨rfl,rfl,by rw[List.length_append]; rfl,qKi _ _ _ _ rfl⟩,HE.refl _,HE.refl _,HE.refl _,HE.refl _,HE.refl _,HE.refl _,HE.refl _,trivial⟩
   ·rw[qAf,if_neg h2] at ih
    repeat' (refine And.intro (fun _=>by omega) ?_)
    exact FOk.cv ih ⟨HE.refl _,HE.refl _,HE.refl _,HE.refl _,HE.refl _,HE.refl _,HE.refl _,HE.refl _,HE.refl _,HE.refl _,⟨rfl,rfl,by rw[List.length_append]; rfl,qKi _ _ _ _ rfl⟩,HE.refl _,HE.refl _,HE.refl _,HE.refl _,HE.refl _,HE.refl _,HE.refl _,trivial⟩
  ·repeat' (refine And.intro (fun _=>by omega) ?_)
   rw[qF]
   rw[qAf,if_neg h1] at ih
   refine qH (fun h2=>?_) (fun h2=>?_)
   ·rw[qAf,if_pos h2] at ih
    repeat' (refine And.intro (fun _=>by omega) ?_)
    exact FOk.cv ih ⟨HE.refl _,HE.refl _,HE.refl _,HE.refl _,HE.refl _,HE.refl _,HE.refl _,HE.refl _,HE.refl _,HE.refl _,⟨rfl,rfl,by rw[List.length_append]; rfl,qKi _ _ _ _ rfl⟩,HE.refl _,HE.refl _,HE.refl _,HE.refl _,HE.refl _,HE.refl _,HE.refl _,trivial⟩
   ·rw[qAf,if_neg h2] at ih
    repeat' (refine And.intro (fun _=>by omega) ?_)
    exact FOk.cv ih ⟨HE.refl _,HE.refl _,HE.refl _,HE.refl _,HE.refl _,HE.refl _,HE.refl _,HE.refl _,HE.refl _,HE.refl _,⟨rfl,rfl,by rw[List.length_append]; rfl,qKi _ _ _ _ rfl⟩,HE.refl _,HE.refl _,HE.refl _,HE.refl _,HE.refl _,HE.refl _,HE.refl _,trivial⟩
end Go.Proofs.Ytlmjdcbhpffanaa
/- Layout. -/
namespace Go.Proofs.Ytlmjdcbhpffanaa
open Go.Sx Go.Pl
set_option linter.unusedVariables false
set_option maxRecDepth 100000
theorem jAa(c:Cir)(p:Pln)(k:Int)(K:List It→St→Prop)(R:SV→List HO→Prop):W (xwp Try.prog X qMn [] 60 (qO Try.f16 [] [⟨[0,1,0,1,1,1,1],[49,48,47,11,10,6,5,3],[]⟩,⟨[0,1,0,1,1,1,1,1],[64,63,62,11,10,6,5,3],[]⟩,⟨[0,1,0,1,1,1,1,1,1,1,1,1],[93,92,91,18,17,16,11,10,6,5,3],[]⟩,⟨[0,1,1,1,1,1,0,0,1,1,0,0,1,0,1,1,1,1,1,1,1,1,1],[114,113,112,21,93,92,91,18,17,16,11,10,6,5,3],[]⟩,⟨[0,1,0,1,1,1,1,1,1,1,1,1,1,1],[144,143,142,26,18,11,6,5,3],[]⟩]) [] [.at []] ⟨qQ 0 [.agg [.v (.int .i64 c.fx),.v (.int .i64 c.ad),.v (.int .i64 c.ins),.x 0 [],.x 1 [],.x 2 [],.x 3 []],.v (.int .i64 k),.agg [.x 4 [],.x 5 [],.x 6 [],.x 7 []]],[.ext false (.s false 7 c.4.length (cN c.4)),.ext false (.s false 1 c.5.length (cI c.5)),.ext false (.s false 2 c.6.length (cL c.6)),.ext false (.s false 2 c.7.length (cK c.7)),.ext false (.s false 2 p.1.length (cRg p.1)),.ext false (.s false 2 p.2.length (cTa p.2)),.ext false (.s false 6 p.3.length (cLk p.3)),.ext false (.s false 1 p.4.length (cT p.4))]⟩ K R)=W (lSh c.1 c.2 c.3 c.4.length c.5.length c.6.length c.7.length p.1.length p.2.length p.3.length p.4.length (cN c.4) (cI c.5) (cL c.6) (cK c.7) (cRg p.1) (cTa p.2) (cLk p.3) (cT p.4) fun(c_1:Cir) (p_1:Pln)=>bif !qAl c_1 k p_1==(0:Int) then(∀ M:Mem,4≤4)∧R (.tup [.agg [.v (Value.slice none 0 0),.v (Value.slice none 0 0),.v (Value.slice none 0 0),.v (Value.slice none 0 0)],.v (Value.slice none 0 0),.v (qA (qAl c_1 k p_1))]) [] else((∀ M:Mem,(0:Int)≤c.1∧c.1≤c.1∧(24:Int)*c.1≤(281474976710656:Int)∧c.1≤(9223372036854775807:Int))∧(∀ M:Mem,(0:Int)≤c.2∧c.2≤c.2∧(24:Int)*c.2≤(281474976710656:Int)∧c.2≤(9223372036854775807:Int))∧(∀ M:Mem,0+4≤4)∧K [.at [0,1,0,1,1,1,1],.blk 0,.at [1,1,1,1,1]] (St.mk [(49,.v (qA 0)),(48,.v (qA (↑p.4.length:Int))),(47,.x 0 []),(11,.p 1 0),(10,.v (qA (usN k))),(6,.p 2 0),(5,.p 3 0),(3,.p 4 0)] [.ext false (.s false 1 p.4.length (cT p.4)),.cells [.o 5,.o 6,.v (Value.slice none 0 0),.v (Value.slice none 0 0)] 49,.cells [.v (Value.slice none 0 0),.v (Value.slice none 0 0),.v (Value.slice none 0 0),.v (Value.slice none 0 0)] 49,.cells [.x 7 [],.x 8 [],.x 9 [],.x 0 []] 33,.cells [.v (qA c.1),.v (qA c.2),.v (qA c.3),.x 10 [],.x 11 [],.x 12 [],.x 13 []] 27,.rowc 44 1 (Int.toNat c.1) (Ct.zero [Value.slice none 0 0]),.rowc 44 1 (Int.toNat c.2) (Ct.zero [Value.slice none 0 0]),.ext false (.s false 2 p.1.length (cRg p.1)),.ext false (.s false 2 p.2.length (cTa p.2)),.ext false (.s false 6 p.3.length (cLk p.3)),.ext false (.s false 7 c.4.length (cN c.4)),.ext false (.s false 1 c.5.length (cI c.5)),.ext false (.s false 2 c.6.length (cL c.6)),.ext false (.s false 2 c.7.length (cK c.7))]))∧((∀ M:Mem,(0:Int)≤c.1∧c.1≤c.1∧(24:Int)*c.1≤(281474976710656:Int)∧c.1≤(9223372036854775807:Int))∧(∀ M:Mem,(0:Int)≤c.2∧c.2≤c.2∧(24:Int)*c.2≤(281474976710656:Int)∧c.2≤(9223372036854775807:Int))∧(∀ M:Mem,0+4≤4)∧K [.at [0,1,0,1,1,1,1],.blk 0,.at [1,1,1,1,1]] (St.mk [(49,.v (qA 0)),(48,.v (qA (↑p.4.length:Int))),(47,.x 0 []),(11,.p 1 0),(10,.v (qA (usN k))),(6,.p 2 0),(5,.p 3 0),(3,.p 4 0)] [.ext false (.s false 1 p.4.length (cT p.4)),.cells [.o 5,.o 6,.v (Value.slice none 0 0),.v (Value.slice none 0 0)] 49,.cells [.v (Value.slice none 0 0),.v (Value.slice none 0 0),.v (Value.slice none 0 0),.v (Value.slice none 0 0)] 49,.cells [.x 7 [],.x 8 [],.x 9 [],.x 0 []] 33,.cells [.v (qA c.1),.v (qA c.2),.v (qA c.3),.x 10 [],.x 11 [],.x 12 [],.x 13 []] 27,.rowc 44 1 (Int.toNat c.1) (Ct.zero [Value.slice none 0 0]),.rowc 44 1 (Int.toNat c.2) (Ct.zero [Value.slice none 0 0]),.ext false (.s false 2 p.1.length (cRg p.1)),.ext false (.s false 2 p.2.length (cTa p.2)),.ext false (.s false 6 p.3.length (cLk p.3)),.ext false (.s false 7 c.4.length (cN c.4)),.ext false (.s false 1 c.5.length (cI c.5)),.ext false (.s false 2 c.6.length (cL c.6)),.ext false (.s false 2 c.7.length (cK c.7))]))∧((∀ M:Mem,(0:Int)≤c.2∧c.2≤c.2∧(24:Int)*c.2≤(281474976710656:Int)∧c.2≤(9223372036854775807:Int))∧(∀ M:Mem,(0:Int)≤c.1∧c.1≤c.1∧(24:Int)*c.1≤(281474976710656:Int)∧c.1≤(9223372036854775807:Int))∧(∀ M:Mem,0+4≤4)∧K [.at [0,1,0,1,1,1,1],.blk 0,.at [1,1,1,1,1]] (St.mk [(49,.v (qA 0)),(48,.v (qA (↑p.4.length:Int))),(47,.x 0 []),(11,.p 1 0),(10,.v (qA (usN k))),(6,.p 2 0),(5,.p 3 0),(3,.p 4 0)] [.ext false (.s false 1 p.4.length (cT p.4)),.cells [.o 5,.o 6,.v (Value.slice none 0 0),.v (Value.slice none 0 0)] 49,.cells [.v (Value.slice none 0 0),.v (Value.slice none 0 0),.v (Value.slice none 0 0),.v (Value.slice none 0 0)] 49,.cells [.x 7 [],.x 8 [],.x 9 [],.x 0 []] 33,.cells [.v (qA c.1),.v (qA c.2),.v (qA c.3),.x 10 [],.x 11 [],.x 12 [],.x 13 []] 27,.rowc 44 1 (Int.toNat c.1) (Ct.zero [Value.slice none 0 0]),.rowc 44 1 (Int.toNat c.2) (Ct.zero [Value.slice none 0 0]),.ext false (.s false 2 p.1.length (cRg p.1)),.ext false (.s false 2 p.2.length (cTa p.2)),.ext false (.s false 6 p.3.length (cLk p.3)),.ext false (.s false 7 c.4.length (cN c.4)),.ext false (.s false 1 c.5.length (cI c.5)),.ext false (.s false 2 c.6.length (cL c.6)),.ext false (.s false 2 c.7.length (cK c.7))]))∧((∀ M:Mem,(0:Int)≤c.2∧c.2≤c.2∧(24:Int)*c.2≤(281474976710656:Int)∧c.2≤(9223372036854775807:Int))∧(∀ M:Mem,(0:Int)≤c.1∧c.1≤c.1∧(24:Int)*c.1≤(281474976710656:Int)∧c.1≤(9223372036854775807:Int))∧(∀ M:Mem,0+4≤4)∧K [.at [0,1,0,1,1,1,1],.blk 0,.at [1,1,1,1,1]] (St.mk [(49,.v (qA 0)),(48,.v (qA (↑p.4.length:Int))),(47,.x 0 []),(11,.p 1 0),(10,.v (qA (usN k))),(6,.p 2 0),(5,.p 3 0),(3,.p 4 0)] [.ext false (.s false 1 p.4.length (cT p.4)),.cells [.o 5,.o 6,.v (Value.slice none 0 0),.v (Value.slice none 0 0)] 49,.cells [.v (Value.slice none 0 0),.v (Value.slice none 0 0),.v (Value.slice none 0 0),.v (Value.slice none 0 0)] 49,.cells [.x 7 [],.x 8 [],.x 9 [],.x 0 []] 33,.cells [.v (qA c.1),.v (qA c.2),.v (qA c.3),.x 10 [],.x 11 [],.x 12 [],.x 13 []] 27,.rowc 44 1 (Int.toNat c.1) (Ct.zero [Value.slice none 0 0]),.rowc 44 1 (Int.toNat c.2) (Ct.zero [Value.slice none 0 0]),.ext false (.s false 2 p.1.length (cRg p.1)),.ext false (.s false 2 p.2.length (cTa p.2)),.ext false (.s false 6 p.3.length (cLk p.3)),.ext false (.s false 7 c.4.length (cN c.4)),.ext false (.s false 1 c.5.length (cI c.5)),.ext false (.s false 2 c.6.length (cL c.6)),.ext false (.s false 2 c.7.length (cK c.7))]))∧((∀ M:Mem,(0:Int)≤c.1∧c.1≤c.1∧(24:Int)*c.1≤(281474976710656:Int)∧c.1≤(9223372036854775807:Int))∧(∀ M:Mem,(0:Int)≤c.2∧c.2≤c.2∧(24:Int)*c.2≤(281474976710656:Int)∧c.2≤(9223372036854775807:Int))∧(∀ M:Mem,0+4≤4)∧K [.at [0,1,0,1,1,1,1],.blk 0,.at [1,1,1,1,1]] (St.mk [(49,.v (qA 0)),(48,.v (qA (↑p.4.length:Int))),(47,.x 0 []),(11,.p 1 0),(10,.v (qA (usN k))),(6,.p 2 0),(5,.p 3 0),(3,.p 4 0)] [.ext false (.s false 1 p.4.length (cT p.4)),.cells [.o 5,.o 6,.v (Value.slice none 0 0),.v (Value.slice none 0 0)] 49,.cells [.v (Value.slice none 0 0),.v (Value.slice none 0 0),.v (Value.slice none 0 0),.v (Value.slice none 0 0)] 49,.cells [.x 7 [],.x 8 [],.x 9 [],.x 0 []] 33,.cells [.v (qA c.1),.v (qA c.2),.v (qA c.3),.x 10 [],.x 11 [],.x 12 [],.x 13 []] 27,.rowc 44 1 (Int.toNat c.1) (Ct.zero [Value.slice none 0 0]),.rowc 44 1 (Int.toNat c.2) (Ct.zero [Value.slice none 0 0]),.ext false (.s false 2 p.1.length (cRg p.1)),.ext false (.s false 2 p.2.length (cTa p.2)),.ext false (.s false 6 p.3.length (cLk p.3)),.ext false (.s false 7 c.4.length (cN c.4)),.ext false (.s false 1 c.5.length (cI c.5)),.ext false (.s false 2 c.6.length (cL c.6)),.ext false (.s false 2 c.7.length (cK c.7))]))∧(∀ M:Mem,(0:Int)≤c.2∧c.2≤c.2∧(24:Int)*c.2≤(281474976710656:Int)∧c.2≤(9223372036854775807:Int))∧(∀ M:Mem,(0:Int)≤c.1∧c.1≤c.1∧(24:Int)*c.1≤(281474976710656:Int)∧c.1≤(9223372036854775807:Int))∧(∀ M:Mem,0+4≤4)∧K [.at [0,1,0,1,1,1,1],.blk 0,.at [1,1,1,1,1]] (St.mk [(49,.v (qA 0)),(48,.v (qA (↑p.4.length:Int))),(47,.x 0 []),(11,.p 1 0),(10,.v (qA (usN k))),(6,.p 2 0),(5,.p 3 0),(3,.p 4 0)] [.ext false (.s false 1 p.4.length (cT p.4)),.cells [.o 5,.o 6,.v (Value.slice none 0 0),.v (Value.slice none 0 0)] 49,.cells [.v (Value.slice none 0 0),.v (Value.slice none 0 0),.v (Value.slice none 0 0),.v (Value.slice none 0 0)] 49,.cells [.x 7 [],.x 8 [],.x 9 [],.x 0 []] 33,.cells [.v (qA c.1),.v (qA c.2),.v (qA c.3),.x 10 [],.x 11 [],.x 12 [],.x 13 []] 27,.rowc 44 1 (Int.toNat c.1) (Ct.zero [Value.slice none 0 0]),.rowc 44 1 (Int.toNat c.2) (Ct.zero [Value.slice none 0 0]),.ext false (.s false 2 p.1.length (cRg p.1)),.ext false (.s false 2 p.2.length (cTa p.2)),.ext false (.s false 6 p.3.length (cLk p.3)),.ext false (.s false 7 c.4.length (cN c.4)),.ext false (.s false 1 c.5.length (cI c.5)),.ext false (.s false 2 c.6.length (cL c.6)),.ext false (.s false 2 c.7.length (cK c.7))])):=by kernel_rfl
theorem FOk.newTz{P:Program}{m0:Nat}{fn:Func}{Q:SV→List HO→Prop}{its:List It}{tm:List (Nat×SV)}{h:List HO}(i:Nat){T0:TypeId}{n:Nat}{c0:Ct}(T1:TypeId)(hi:h[i]?=some (.rowc T0 1 n c0))(hc:∀ k,k<n→c0.at k 0=.v (.slice none 0 0))(hx:zZ P m0 fn Q its ⟨zCv i h.length tm,(h.set i .gone++[HO.tbl T0 T1 4 (List.replicate n ([]:List Nat)).length (tC (List.replicate n [])) none]).map (qNx i h.length)⟩):zZ P m0 fn Q its ⟨tm,h⟩:=by
 refine FOk.newTn i T1 4 (cE []) hi hc ?_
 rw[List.length_replicate,zRw] at hx
 exact hx
theorem zZv:Try.f16.body.isSome=true:=by kernel_rfl
theorem jAi(c:Cir)(k:Int):Nat.ble ([.agg [.v (.int .i64 c.fx),.v (.int .i64 c.ad),.v (.int .i64 c.ins),.x 0 [],.x 1 [],.x 2 [],.x 3 []],.v (.int .i64 k),.agg [.x 4 [],.x 5 [],.x 6 [],.x 7 []]]:List SV).length Try.f16.ntmps=true:=by kernel_rfl
theorem qHq(c:Cir)(hc:c.ok)(p:Pln)(hp:p.ok)(k:Int)(Q:SV→List HO→Prop)(h1:qAl c k p≠0→Q (SV.tup [SV.agg [SV.v (Value.slice none 0 0),SV.v (Value.slice none 0 0),SV.v (Value.slice none 0 0),SV.v (Value.slice none 0 0)],SV.v (Value.slice none 0 0),SV.v (qA (qAl c k p))]) [])(h2:qAl c k p=0→qAk (usN k) p.tb (List.replicate (Int.toNat c.1) ([]:List Nat))=none→Q (SV.tup [SV.agg [SV.v (Value.slice none 0 0),SV.v (Value.slice none 0 0),SV.v (Value.slice none 0 0),SV.v (Value.slice none 0 0)],SV.v (Value.slice none 0 0),SV.v (qA (141:Int))]) [])(h3:∀ lF,qAl c k p=0→qAk (usN k) p.tb (List.replicate (Int.toNat c.1) ([]:List Nat))=some lF→xV (usN k) p.rg [] [] lF (List.replicate (Int.toNat c.2) ([]:List Nat)) []=none→Q (SV.tup [SV.agg [SV.v (Value.slice none 0 0),SV.v (Value.slice none 0 0),SV.v (Value.slice none 0 0),SV.v (Value.slice none 0 0)],SV.v (Value.slice none 0 0),SV.v (qA (141:Int))]) [])(h4:∀ lF z,qAl c k p=0→qAk (usN k) p.tb (List.replicate (Int.toNat c.1) ([]:List Nat))=some lF→xV (usN k) p.rg [] [] lF (List.replicate (Int.toNat c.2) ([]:List Nat)) []=some z→Q (SV.tup [SV.agg [SV.x 0 [],SV.x 1 [],SV.x 2 [],SV.o 3],SV.x 4 [],SV.v (qA (0:Int))]) [HO.ext false (qB.s false 1 z.1.length (cT z.1)),HO.ext false (qB.s false 1 z.2.1.length (cT z.2.1)),HO.ext false (qB.s false 1 p.is.length (cT p.is)),HO.rowc 103 4 (wG z.2.2 p.lk).length (Ct.fn (cP (wG z.2.2 p.lk))),HO.ext false (qB.s false 1 z.2.2.length (cI z.2.2))]):qI Try.prog 16 [.agg [.v (.int .i64 c.fx),.v (.int .i64 c.ad),.v (.int .i64 c.ins),.x 0 [],.x 1 [],.x 2 [],.x 3 []],.v (.int .i64 k),.agg [.x 4 [],.x 5 [],.x 6 [],.x 7 []]] [.ext false (.s false 7 c.4.length (cN c.4)),.ext false (.s false 1 c.5.length (cI c.5)),.ext false (.s false 2 c.6.length (cL c.6)),.ext false (.s false 2 c.7.length (cK c.7)),.ext false (.s false 2 p.1.length (cRg p.1)),.ext false (.s false 2 p.2.length (cTa p.2)),.ext false (.s false 6 p.3.length (cLk p.3)),.ext false (.s false 1 p.4.length (cT p.4))] Q:=by
 refine qJ Try.func16 zZv (jAi c k) ?_
 refine qE hm 60 ((jAa c p k _ _).mpr ⟨?_⟩)
 refine wP c hc p hp ?_
 rw[zC,zF]
 refine qH (fun h0=>?_) (fun h0=>aI (h1 h0))
 obtain⟨hck,hk3,hk5,hr⟩:=qHz h0
 have hR:=qNe hr
 have hub:=zLh hk5
 have hcn:=of_decide_eq_true (qHc hck)
 have hcn1:=hcn.1
 have hcn2:=hcn.2.1
 have fin:FOk Try.prog Try.f16 Q (.at [0,1,0,1,1,1,1]::[.blk 0,.at [1,1,1,1,1]]) (St.mk [(49,SV.v (qA (0:Int))),(48,SV.v (qA (↑(List.length p.4):Int))),(47,SV.x 0 []),(11,SV.p 1 0),(10,SV.v (qA (usN k))),(6,SV.p 2 0),(5,SV.p 3 0),(3,SV.p 4 0)] [HO.ext false (qB.s false 1 (List.length p.4) (cT p.4)),HO.cells [SV.o 5,SV.o 6,SV.v (Value.slice none 0 0),SV.v (Value.slice none 0 0)] 49,HO.cells [SV.v (Value.slice none 0 0),SV.v (Value.slice none 0 0),SV.v (Value.slice none 0 0),SV.v (Value.slice none 0 0)] 49,HO.cells [SV.x 7 [],SV.x 8 [],SV.x 9 [],SV.x 0 []] 33,HO.cells [SV.v (qA c.1),SV.v (qA c.2),SV.v (qA c.3),SV.x 10 [],SV.x 11 [],SV.x 12 [],SV.x 13 []] 27,HO.rowc 44 1 (Int.toNat c.1) (Ct.zero [Value.slice none 0 0]),HO.rowc 44 1 (Int.toNat c.2) (Ct.zero [Value.slice none 0 0]),HO.ext false (qB.s false 2 (List.length p.1) (cRg p.1)),HO.ext false (qB.s false 2 (List.length p.2) (cTa p.2)),HO.ext false (qB.s false 6 (List.length p.3) (cLk p.3)),HO.ext false (qB.s false 7 (List.length c.4) (cN c.4)),HO.ext false (qB.s false 1 (List.length c.5) (cI c.5)),HO.ext false (qB.s false 2 (List.length c.6) (cL c.6)),HO.ext false (qB.s false 2 (List.length c.7) (cK c.7))]):=by
  refine FOk.newTz 5 56 rfl (fun _ _=>rfl) ?_
  refine FOk.newTz 6 56 rfl (fun _ _=>rfl) ?_
  refine FOk.nilC 1 2 44 1 rfl rfl ?_
  refine FOk.nilC 1 3 103 4 rfl rfl ?_
  refine FOk.norm (ks:=[49,48,47,11,10,6,5,3]) (nl:=[]) (st':=(St.mk [(49,SV.v (qA (0:Int))),(48,SV.v (qA (↑(List.length p.4):Int))),(47,SV.x 0 []),(11,SV.p 1 0),(10,SV.v (qA (usN k))),(6,SV.p 2 0),(5,SV.p 3 0),(3,SV.p 4 0)] [HO.ext false (qB.s false 1 (List.length p.4) (cT p.4)),HO.cells [SV.o 5,SV.o 6,SV.o 7,SV.o 8] 49,HO.cells [SV.v (Value.slice none 0 0),SV.v (Value.slice none 0 0),SV.v (Value.slice none 0 0),SV.v (Value.slice none 0 0)] 49,HO.cells [SV.x 9 [],SV.x 10 [],SV.x 11 [],SV.x 0 []] 33,HO.cells [SV.v (qA c.1),SV.v (qA c.2),SV.v (qA c.3),SV.x 12 [],SV.x 13 [],SV.x 14 [],SV.x 15 []] 27,HO.tbl 44 56 4 (List.replicate (Int.toNat c.1) ([]:List Nat)).length (tC (List.replicate (Int.toNat c.1) ([]:List Nat))) none,HO.tbl 44 56 4 (List.replicate (Int.toNat c.2) ([]:List Nat)).length (tC (List.replicate (Int.toNat c.2) ([]:List Nat))) none,HO.rowc 44 1 0 (Ct.lit 1 []),HO.rowc 103 4 0 (Ct.lit 1 []),HO.ext false (qB.s false 2 (List.length p.1) (cRg p.1)),HO.ext false (qB.s false 2 (List.length p.2) (cTa p.2)),HO.ext false (qB.s false 6 (List.length p.3) (cLk p.3)),HO.ext false (qB.s false 7 (List.length c.4) (cN c.4)),HO.ext false (qB.s false 1 (List.length c.5) (cI c.5)),HO.ext false (qB.s false 2 (List.length c.6) (cL c.6)),HO.ext false (qB.s false 2 (List.length c.7) (cK c.7))])) (by kernel_rfl) ?_
  refine FOk.loop (p.is.length+1) (by kernel_rfl) ?_
  refine FOk.cv (qQe c p hp k (usN k) (tC (List.replicate (Int.toNat c.1) ([]:List Nat))) (tC (List.replicate (Int.toNat c.2) ([]:List Nat))) (List.replicate (Int.toNat c.1) ([]:List Nat)).length (List.replicate (Int.toNat c.2) ([]:List Nat)).length Q ?_ p.is.length 0 [] (by omega) rfl) ⟨HE.refl _,HE.refl _,HE.refl _,HE.refl _,HE.refl _,HE.refl _,HE.refl _,⟨rfl,rfl,rfl,fun k hk=>absurd hk (Nat.not_lt_zero k)⟩,HE.refl _,HE.refl _,HE.refl _,HE.refl _,HE.refl _,HE.refl _,HE.refl _,HE.refl _,trivial⟩
  refine FOk.loop (p.tb.length+1) (by kernel_rfl) ?_
  refine qPw c p hp k (usN k) hR (tC (List.replicate (Int.toNat c.2) ([]:List Nat))) (List.replicate (Int.toNat c.2) ([]:List Nat)).length p.is.length p.is (by omega) Q p.tb.length 0 (List.replicate (Int.toNat c.1) ([]:List Nat)) (by omega) (by rw[List.length_replicate]) (h2 h0) (fun lF' hlF hlen=>?_)
  refine FOk.nilC 1 0 3 1 rfl rfl ?_
  refine FOk.norm (ks:=[93,92,91,18,17,16,11,10,6,5,3]) (nl:=[]) (st':=(St.mk [(93,SV.v (qA (0:Int))),(92,SV.v (qA (↑(List.length p.1):Int))),(91,SV.x 0 []),(18,SV.p 1 0),(17,SV.m 2),(16,SV.m 3),(11,SV.p 4 0),(10,SV.v (qA (usN k))),(6,SV.p 5 0),(5,SV.p 6 0),(3,SV.p 7 0)] [HO.ext false (qB.s false 2 (List.length p.1) (cRg p.1)),HO.cells [SV.o 8] 23,HO.mp true [IntKind.i64,IntKind.i64] [] (Mc.ints IntKind.u64 []),HO.mp false [IntKind.i64] [[(2:Int)],[(3:Int)]] (Mc.svs [SV.o 9,SV.o 10]),HO.cells [SV.o 9,SV.o 10,SV.o 11,SV.o 12] 49,HO.cells [SV.v (Value.slice none 0 0),SV.v (Value.slice none 0 0),SV.v (Value.slice none 0 0),SV.v (Value.slice none 0 0)] 49,HO.cells [SV.x 0 [],SV.x 13 [],SV.x 14 [],SV.x 15 []] 33,HO.cells [SV.v (qA c.1),SV.v (qA c.2),SV.v (qA c.3),SV.x 16 [],SV.x 17 [],SV.x 18 [],SV.x 19 []] 27,HO.rowc 3 1 0 (Ct.lit 1 []),HO.tbl 44 56 4 lF'.length (tC lF') none,HO.tbl 44 56 4 (List.replicate (Int.toNat c.2) ([]:List Nat)).length (tC (List.replicate (Int.toNat c.2) ([]:List Nat))) none,HO.rowc 44 1 p.is.length (Ct.fn (cT p.is)),HO.rowc 103 4 0 (Ct.lit 1 []),HO.ext false (qB.s false 2 (List.length p.2) (cTa p.2)),HO.ext false (qB.s false 6 (List.length p.3) (cLk p.3)),HO.ext false (qB.s false 1 (List.length p.4) (cT p.4)),HO.ext false (qB.s false 7 (List.length c.4) (cN c.4)),HO.ext false (qB.s false 1 (List.length c.5) (cI c.5)),HO.ext false (qB.s false 2 (List.length c.6) (cL c.6)),HO.ext false (qB.s false 2 (List.length c.7) (cK c.7))])) (by kernel_rfl) ?_
  refine FOk.loop (p.rg.length+1) (by kernel_rfl) ?_
  refine FOk.cv (qPd c p hp k (usN k) hR hub.1 (by omega) p.is p.is.length Q p.rg.length 0 [] [] lF' (List.replicate (Int.toNat c.2) ([]:List Nat)) [] (by omega) rfl hlen (by rw[List.length_replicate]) (qKb _ _ _ hlF (qAo _ hub.1)) (qAo _ hub.1) rfl (h3 lF' h0 hlF) (fun z hz=>?_)) ⟨HE.refl _,HE.refl _,HE.refl _,HE.refl _,HE.refl _,HE.refl _,HE.refl _,HE.refl _,⟨rfl,rfl,rfl,fun k hk=>absurd hk (Nat.not_lt_zero k)⟩,HE.refl _,HE.refl _,HE.refl _,HE.refl _,HE.refl _,HE.refl _,HE.refl _,HE.refl _,HE.refl _,HE.refl _,HE.refl _,trivial⟩
  obtain⟨z1,z2,z3⟩:=qPf _ _ _ _ _ _ _ hz (fun s hs=>by cases hs) (fun r hr=>(hR.r r hr).w)
  refine FOk.frzTb 7 rfl ?_
  refine FOk.frzTb 8 rfl ?_
  refine FOk.frzH 9 rfl ?_
  refine FOk.frzH 6 rfl ?_
  refine FOk.norm (ks:=[144,143,142,26,18,11,6,5,3]) (nl:=[]) (st':=(St.mk [(144,SV.v (qA (0:Int))),(143,SV.v (qA (↑(List.length p.3):Int))),(142,SV.x 0 []),(26,SV.fn (Fn.func 41) [] [SV.p 1 0]),(18,SV.p 1 0),(11,SV.p 2 0),(6,SV.p 3 0),(5,SV.p 4 0),(3,SV.p 5 0)] [HO.ext false (qB.s false 6 (List.length p.3) (cLk p.3)),HO.cells [SV.x 6 []] 23,HO.cells [SV.x 7 [],SV.x 8 [],SV.x 9 [],SV.o 10] 49,HO.cells [SV.v (Value.slice none 0 0),SV.v (Value.slice none 0 0),SV.v (Value.slice none 0 0),SV.v (Value.slice none 0 0)] 49,HO.cells [SV.x 11 [],SV.x 12 [],SV.x 0 [],SV.x 13 []] 33,HO.cells [SV.v (qA c.1),SV.v (qA c.2),SV.v (qA c.3),SV.x 14 [],SV.x 15 [],SV.x 16 [],SV.x 17 []] 27,HO.ext false (qB.s false 1 z.2.2.length (cI z.2.2)),HO.ext false (qB.s false 1 (List.length z.1) (cT z.1)),HO.ext false (qB.s false 1 (List.length z.2.1) (cT z.2.1)),HO.ext false (qB.s false 1 p.is.length (cT p.is)),HO.rowc 103 4 0 (Ct.lit 1 []),HO.ext false (qB.s false 2 (List.length p.1) (cRg p.1)),HO.ext false (qB.s false 2 (List.length p.2) (cTa p.2)),HO.ext false (qB.s false 1 (List.length p.4) (cT p.4)),HO.ext false (qB.s false 7 (List.length c.4) (cN c.4)),HO.ext false (qB.s false 1 (List.length c.5) (cI c.5)),HO.ext false (qB.s false 2 (List.length c.6) (cL c.6)),HO.ext false (qB.s false 2 (List.length c.7) (cK c.7))])) (by kernel_rfl) ?_
  refine FOk.loop (p.lk.length+1) (by kernel_rfl) ?_
  exact FOk.cv (qPn c p k (usN k) hR hub.1 (by omega) z.1 z.2.1 z.2.2 (by rw[z1]; exact Nat.zero_add _) z2 z3 Q (h4 lF' z h0 hlF hz) p.lk.length 0 [] (by omega) rfl) ⟨HE.refl _,HE.refl _,HE.refl _,HE.refl _,HE.refl _,HE.refl _,HE.refl _,HE.refl _,HE.refl _,HE.refl _,⟨rfl,rfl,rfl,fun k hk=>absurd hk (Nat.not_lt_zero k)⟩,HE.refl _,HE.refl _,HE.refl _,HE.refl _,HE.refl _,HE.refl _,HE.refl _,trivial⟩
 repeat' (first | refine And.intro (fun _=>by omega) ?_ | refine And.intro ?_ ?_)
 all_goals exact fin
theorem qXr(c:Cir)(hc:c.ok)(p:Pln)(hp:p.ok)(k:Int)(Q:SV→List HO→Prop)(h1:(qS c k p).2≠0→Q (SV.tup [SV.agg [SV.v (Value.slice none 0 0),SV.v (Value.slice none 0 0),SV.v (Value.slice none 0 0),SV.v (Value.slice none 0 0)],SV.v (Value.slice none 0 0),SV.v (qA (qS c k p).2)]) [])(h2:(qS c k p).2=0→Q (SV.tup [SV.agg [SV.x 0 [],SV.x 1 [],SV.x 2 [],SV.x 3 []],SV.x 4 [],SV.v (qA (0:Int))]) [HO.ext false (qB.s false 1 (qS c k p).1.1.fx.length (cT (qS c k p).1.1.fx)),HO.ext false (qB.s false 1 (qS c k p).1.1.ad.length (cT (qS c k p).1.1.ad)),HO.ext false (qB.s false 1 (qS c k p).1.1.is.length (cT (qS c k p).1.1.is)),HO.ext false (qB.s false 4 (qS c k p).1.1.cp.length (cP (qS c k p).1.1.cp)),HO.ext false (qB.s false 1 (qS c k p).1.2.length (cI (qS c k p).1.2))]):qI Try.prog 16 [.agg [.v (.int .i64 c.fx),.v (.int .i64 c.ad),.v (.int .i64 c.ins),.x 0 [],.x 1 [],.x 2 [],.x 3 []],.v (.int .i64 k),.agg [.x 4 [],.x 5 [],.x 6 [],.x 7 []]] [.ext false (.s false 7 c.4.length (cN c.4)),.ext false (.s false 1 c.5.length (cI c.5)),.ext false (.s false 2 c.6.length (cL c.6)),.ext false (.s false 2 c.7.length (cK c.7)),.ext false (.s false 2 p.1.length (cRg p.1)),.ext false (.s false 2 p.2.length (cTa p.2)),.ext false (.s false 6 p.3.length (cLk p.3)),.ext false (.s false 1 p.4.length (cT p.4))] Q:=by
 by_cases e0:qAl c k p=0
 ·cases e1:qAk (usN k) p.tb (List.replicate (Int.toNat c.1) ([]:List Nat)) with
  | none =>
   have e:(qS c k p)=((qKv,[]),141):=by rw[qS,if_neg (fun h=>h e0),e1]
   rw[e] at h1
   exact qHq c hc p hp k Q (fun h=>absurd e0 h) (fun _ _=>h1 (by decide)) (fun lF _ h=>by rw[e1] at h; cases h) (fun lF z _ h=>by rw[e1] at h; cases h)
  | some lF =>
   cases e2:xV (usN k) p.rg [] [] lF (List.replicate (Int.toNat c.2) ([]:List Nat)) [] with
   | none =>
    have e:(qS c k p)=((qKv,[]),141):=by rw[qS,if_neg (fun h=>h e0),e1]; show(match xV (usN k) p.rg [] [] lF (List.replicate (Int.toNat c.2) ([]:List Nat)) [] with | none=>_ | some z=>_)=_; rw[e2]
    rw[e] at h1
    refine qHq c hc p hp k Q (fun h=>absurd e0 h) (fun _ h=>by rw[e1] at h; cases h) (fun lF _ _ _=>h1 (by decide)) (fun lF' z _ h g=>?_)
    rw[e1] at h; cases h
    rw[e2] at g; cases g
   | some z =>
    have e:(qS c k p)=((⟨z.1,z.2.1,p.is,wG z.2.2 p.lk⟩,z.2.2),0):=by rw[qS,if_neg (fun h=>h e0),e1]; show(match xV (usN k) p.rg [] [] lF (List.replicate (Int.toNat c.2) ([]:List Nat)) [] with | none=>_ | some z=>_)=_; rw[e2]
    rw[e] at h2
    refine qI.mono (qI.gc (r1:=(SV.tup [SV.agg [SV.x 0 [],SV.x 1 [],SV.x 2 [],SV.x 3 []],SV.x 4 [],SV.v (qA (0:Int))])) (h1:=[HO.ext false (qB.s false 1 z.1.length (cT z.1)),HO.ext false (qB.s false 1 z.2.1.length (cT z.2.1)),HO.ext false (qB.s false 1 p.is.length (cT p.is)),HO.ext false (qB.s false 4 (wG z.2.2 p.lk).length (cP (wG z.2.2 p.lk))),HO.ext false (qB.s false 1 z.2.2.length (cI z.2.2))]) (by kernel_rfl) (qI.frz1 (r0:=(SV.tup [SV.agg [SV.x 0 [],SV.x 1 [],SV.x 2 [],SV.o 3],SV.x 4 [],SV.v (qA (0:Int))])) (h0:=[HO.ext false (qB.s false 1 z.1.length (cT z.1)),HO.ext false (qB.s false 1 z.2.1.length (cT z.2.1)),HO.ext false (qB.s false 1 p.is.length (cT p.is)),HO.rowc 103 4 (wG z.2.2 p.lk).length (Ct.fn (cP (wG z.2.2 p.lk))),HO.ext false (qB.s false 1 z.2.2.length (cI z.2.2))]) 3 rfl (qHq c hc p hp k _ (fun h=>absurd e0 h) (fun _ h=>by rw[e1] at h; cases h) (fun lF' _ h g=>?_) (fun lF' z' _ h g=>?_)))) (fun r h hh=>by rw[hh.1,hh.2]; exact h2 rfl)
    ·rw[e1] at h; cases h
     rw[e2] at g; cases g
    ·rw[e1] at h; cases h
     rw[e2] at g; cases g
     exact⟨rfl,rfl⟩
 ·have e:(qS c k p)=((qKv,[]),qAl c k p):=by rw[qS,if_pos e0]
  rw[e] at h1
  exact qHq c hc p hp k Q (fun h=>h1 h) (fun h=>absurd h e0) (fun _ h=>absurd h e0) (fun _ _ h=>absurd h e0)
noncomputable def zHe:List SV→List HO→Option ((SV→List HO→Prop)→Prop)
 | [.agg [.v (.int .i64 fx),.v (.int .i64 ad),.v (.int .i64 ins),.x 0 [],.x 1 [],.x 2 [],.x 3 []],.v (.int .i64 k),.agg [.x 4 [],.x 5 [],.x 6 [],.x 7 []]],[.ext false (.s false 7 n0 c0),.ext false (.s false 1 n1 c1),.ext false (.s false 2 n2 c2),.ext false (.s false 2 n3 c3),.ext false (.s false 2 m0 d0),.ext false (.s false 2 m1 d1),.ext false (.s false 6 m2 d2),.ext false (.s false 1 m3 d3)] =>
  some fun Q=>lLy fx ad ins k n0 n1 n2 n3 m0 m1 m2 m3 c0 c1 c2 c3 d0 d1 d2 d3 (fun e=>Q (SV.tup [SV.agg [SV.v (Value.slice none 0 0),SV.v (Value.slice none 0 0),SV.v (Value.slice none 0 0),SV.v (Value.slice none 0 0)],SV.v (Value.slice none 0 0),SV.v (.int .i64 e)]) []) (fun s ss=>Q (SV.tup [SV.agg [SV.x 0 [],SV.x 1 [],SV.x 2 [],SV.x 3 []],SV.x 4 [],SV.v (qA (0:Int))]) [HO.ext false (qB.s false 1 s.fx.length (cT s.fx)),HO.ext false (qB.s false 1 s.ad.length (cT s.ad)),HO.ext false (qB.s false 1 s.is.length (cT s.is)),HO.ext false (qB.s false 4 s.cp.length (cP s.cp)),HO.ext false (qB.s false 1 ss.length (cI ss))])
 | _,_=>none
theorem qRp(args:List SV)(h:List HO)(tr:(SV→List HO→Prop)→Prop)(Q:SV→List HO→Prop)(hc:zHe args h=some tr)(ht:tr Q):qI Try.prog 16 args h Q:=by
 unfold zHe at hc
 split at hc
 ·simp only[sI] at hc
  subst hc
  obtain⟨c,rfl,rfl,rfl,⟨rfl,e0⟩,⟨rfl,e1⟩,⟨rfl,e2⟩,⟨rfl,e3⟩,hk,ht2⟩:=ht.h.h.h
  obtain⟨p,⟨rfl,e4⟩,⟨rfl,e5⟩,⟨rfl,e6⟩,⟨rfl,e7⟩,hp,hq⟩:=ht2.h
  exact qI.ac (qXr c hk p hp _ Q hq.1 hq.2) ⟨⟨rfl,rfl,rfl,rfl,e0⟩,⟨rfl,rfl,rfl,rfl,e1⟩,⟨rfl,rfl,rfl,rfl,e2⟩,⟨rfl,rfl,rfl,rfl,e3⟩,⟨rfl,rfl,rfl,rfl,e4⟩,⟨rfl,rfl,rfl,rfl,e5⟩,⟨rfl,rfl,rfl,rfl,e6⟩,⟨rfl,rfl,rfl,rfl,e7⟩,trivial⟩
 ·cases hc
noncomputable def zDa:Con Try.prog:=zRp.add 16 zHe qRp
end Go.Proofs.Ytlmjdcbhpffanaa
/- Layout of circuits and plans with nil slices. -/
namespace Go.Proofs.Ytlmjdcbhpffanaa
open Go.Sx Go.Pl
set_option linter.unusedVariables false
set_option maxRecDepth 100000
noncomputable def orL(g1 g2:List SV→List HO→Option ((SV→List HO→Prop)→Prop)):List SV→List HO→Option ((SV→List HO→Prop)→Prop):=fun args h=>match g1 args h with
 | some t=>some t
 | none=>g2 args h
theorem qZo{f:FuncId}{g1 g2:List SV→List HO→Option ((SV→List HO→Prop)→Prop)}(h1:∀ args h tr Q,g1 args h=some tr→tr Q→qI Try.prog f args h Q)(h2:∀ args h tr Q,g2 args h=some tr→tr Q→qI Try.prog f args h Q):∀ args h tr Q,orL g1 g2 args h=some tr→tr Q→qI Try.prog f args h Q:=by
 intro args h tr Q hc ht
 unfold orL at hc
 split at hc
 ·rename_i t e
  cases hc
  exact h1 args h _ Q e ht
 ·exact h2 args h tr Q hc ht
theorem zJb(c:Cir)(hc:c.ok)(p:Pln)(hp:p.ok)(k:Int)(e6:p.3=[])(Q:SV→List HO→Prop)(h1:(qS c k p).2≠0→Q (.tup [.agg [.v (.slice none 0 0),.v (.slice none 0 0),.v (.slice none 0 0),.v (.slice none 0 0)],.v (.slice none 0 0),.v (.int .i64 (qS c k p).2)]) [])(h2:(qS c k p).2=0→Q (.tup [.agg [.x 0 [],.x 1 [],.x 2 [],.x 3 []],.x 4 [],.v (.int .i64 0)]) [.ext false (.s false 1 (qS c k p).1.1.fx.length (cT (qS c k p).1.1.fx)),.ext false (.s false 1 (qS c k p).1.1.ad.length (cT (qS c k p).1.1.ad)),.ext false (.s false 1 (qS c k p).1.1.is.length (cT (qS c k p).1.1.is)),.ext false (.s false 4 (qS c k p).1.1.cp.length (cP (qS c k p).1.1.cp)),.ext false (.s false 1 (qS c k p).1.2.length (cI (qS c k p).1.2))]):qI Try.prog 16 [.agg [.v (.int .i64 c.fx),.v (.int .i64 c.ad),.v (.int .i64 c.ins),.x 0 [],.x 1 [],.x 2 [],.x 3 []],.v (.int .i64 k),.agg [.x 4 [],.x 5 [],.v (.slice none 0 0),.x 6 []]] [.ext false (.s false 7 c.4.length (cN c.4)),.ext false (.s false 1 c.5.length (cI c.5)),.ext false (.s false 2 c.6.length (cL c.6)),.ext false (.s false 2 c.7.length (cK c.7)),.ext false (.s false 2 p.1.length (cRg p.1)),.ext false (.s false 2 p.2.length (cTa p.2)),.ext false (.s false 1 p.4.length (cT p.4))] Q:=by
 have hs2:∀(e e0:Env) (n:Nat),zE n e0 e→∀ i,i<n→e.val i []=e0.val i []:=fun e e0 n ag i hi=>by rw[(ag.1 i hi).2.2]
 refine qI.nilX (args':=[.agg [.v (.int .i64 c.fx),.v (.int .i64 c.ad),.v (.int .i64 c.ins),.x 0 [],.x 1 [],.x 2 [],.x 3 []],.v (.int .i64 k),.agg [.x 4 [],.x 5 [],.x 7 [],.x 6 []]]) 6 (cLk p.3) ?_ ?_ ?_
 ·simp [wsL,ws]
 ·intro e e0 hv ag
  simp only[List.length_cons,List.length_nil] at hv ag
  simp [qL,den,hv,hs2 e e0 _ ag 0 (by omega),hs2 e e0 _ ag 1 (by omega),hs2 e e0 _ ag 2 (by omega),hs2 e e0 _ ag 3 (by omega),hs2 e e0 _ ag 4 (by omega),hs2 e e0 _ ag 5 (by omega),hs2 e e0 _ ag 6 (by omega)]
 refine qI.gcA (args':=[.agg [.v (.int .i64 c.fx),.v (.int .i64 c.ad),.v (.int .i64 c.ins),.x 0 [],.x 1 [],.x 2 [],.x 3 []],.v (.int .i64 k),.agg [.x 4 [],.x 5 [],.x 6 [],.x 7 []]]) (h':=[.ext false (.s false 7 c.4.length (cN c.4)),.ext false (.s false 1 c.5.length (cI c.5)),.ext false (.s false 2 c.6.length (cL c.6)),.ext false (.s false 2 c.7.length (cK c.7)),.ext false (.s false 2 p.1.length (cRg p.1)),.ext false (.s false 2 p.2.length (cTa p.2)),.ext false (.s false 6 0 (cLk p.3)),.ext false (.s false 1 p.4.length (cT p.4))]) [0,1,2,3,4,5,7,6] (by kernel_rfl) (by kernel_rfl) (by kernel_rfl) ?_
 have:=qXr c hc p hp k Q h1 h2
 rw[e6] at this
 rw[e6]
 exact this
noncomputable def qYh:List SV→List HO→Option ((SV→List HO→Prop)→Prop)
 | [.agg [.v (.int .i64 fx),.v (.int .i64 ad),.v (.int .i64 ins),.x 0 [],.x 1 [],.x 2 [],.x 3 []],.v (.int .i64 k),.agg [.x 4 [],.x 5 [],.v (.slice none 0 0),.x 6 []]],[.ext false (.s false 7 n0 c0),.ext false (.s false 1 n1 c1),.ext false (.s false 2 n2 c2),.ext false (.s false 2 n3 c3),.ext false (.s false 2 m0 d0),.ext false (.s false 2 m1 d1),.ext false (.s false 1 m3 d3)]=>some fun Q=>lLy fx ad ins k n0 n1 n2 n3 m0 m1 0 m3 c0 c1 c2 c3 d0 d1 (cLk []) d3 (fun e=>Q (.tup [.agg [.v (.slice none 0 0),.v (.slice none 0 0),.v (.slice none 0 0),.v (.slice none 0 0)],.v (.slice none 0 0),.v (.int .i64 e)]) []) (fun s ss=>Q (.tup [.agg [.x 0 [],.x 1 [],.x 2 [],.x 3 []],.x 4 [],.v (.int .i64 0)]) [.ext false (.s false 1 s.fx.length (cT s.fx)),.ext false (.s false 1 s.ad.length (cT s.ad)),.ext false (.s false 1 s.is.length (cT s.is)),.ext false (.s false 4 s.cp.length (cP s.cp)),.ext false (.s false 1 ss.length (cI ss))])
 | _,_=>none
theorem qQt(args:List SV)(h:List HO)(tr:(SV→List HO→Prop)→Prop)(Q:SV→List HO→Prop)(hc:qYh args h=some tr)(ht:tr Q):qI Try.prog 16 args h Q:=by
 unfold qYh at hc
 split at hc
 ·simp only[sI] at hc
  subst hc
  obtain⟨c,rfl,rfl,rfl,⟨rfl,e0⟩,⟨rfl,e1⟩,⟨rfl,e2⟩,⟨rfl,e3⟩,hk,ht2⟩:=ht.h.h.h
  obtain⟨p,⟨rfl,e4⟩,⟨rfl,e5⟩,⟨z6,e6⟩,⟨rfl,e7⟩,hp,hq⟩:=ht2.h
  exact qI.ac (zJb c hk p hp _ (List.eq_nil_of_length_eq_zero z6.symm) Q hq.1 hq.2) ⟨⟨rfl,rfl,rfl,rfl,e0⟩,⟨rfl,rfl,rfl,rfl,e1⟩,⟨rfl,rfl,rfl,rfl,e2⟩,⟨rfl,rfl,rfl,rfl,e3⟩,⟨rfl,rfl,rfl,rfl,e4⟩,⟨rfl,rfl,rfl,rfl,e5⟩,⟨rfl,rfl,rfl,rfl,e7⟩,trivial⟩
 ·cases hc
theorem zHr(c:Cir)(hc:c.ok)(p:Pln)(hp:p.ok)(k:Int)(e0:c.4=[])(e1:c.5=[])(e2:c.6=[])(e3:c.7=[])(e5:p.2=[])(e6:p.3=[])(e7:p.4=[])(Q:SV→List HO→Prop)(h1:(qS c k p).2≠0→Q (.tup [.agg [.v (.slice none 0 0),.v (.slice none 0 0),.v (.slice none 0 0),.v (.slice none 0 0)],.v (.slice none 0 0),.v (.int .i64 (qS c k p).2)]) [])(h2:(qS c k p).2=0→Q (.tup [.agg [.x 0 [],.x 1 [],.x 2 [],.x 3 []],.x 4 [],.v (.int .i64 0)]) [.ext false (.s false 1 (qS c k p).1.1.fx.length (cT (qS c k p).1.1.fx)),.ext false (.s false 1 (qS c k p).1.1.ad.length (cT (qS c k p).1.1.ad)),.ext false (.s false 1 (qS c k p).1.1.is.length (cT (qS c k p).1.1.is)),.ext false (.s false 4 (qS c k p).1.1.cp.length (cP (qS c k p).1.1.cp)),.ext false (.s false 1 (qS c k p).1.2.length (cI (qS c k p).1.2))]):qI Try.prog 16 [.agg [.v (.int .i64 c.fx),.v (.int .i64 c.ad),.v (.int .i64 c.ins),.v (.slice none 0 0),.v (.slice none 0 0),.v (.slice none 0 0),.v (.slice none 0 0)],.v (.int .i64 k),.agg [.x 0 [],.v (.slice none 0 0),.v (.slice none 0 0),.v (.slice none 0 0)]] [.ext false (.s false 2 p.1.length (cRg p.1))] Q:=by
 have hs2:∀(e e0:Env) (n:Nat),zE n e0 e→∀ i,i<n→e.val i []=e0.val i []:=fun e e0 n ag i hi=>by rw[(ag.1 i hi).2.2]
 refine qI.nilX (args':=[.agg [.v (.int .i64 c.fx),.v (.int .i64 c.ad),.v (.int .i64 c.ins),.x 1 [],.v (.slice none 0 0),.v (.slice none 0 0),.v (.slice none 0 0)],.v (.int .i64 k),.agg [.x 0 [],.v (.slice none 0 0),.v (.slice none 0 0),.v (.slice none 0 0)]]) 7 (cN c.4) ?_ ?_ ?_
 ·simp [wsL,ws]
 ·intro e e0 hv ag
  simp only[List.length_cons,List.length_nil] at hv ag
  simp [qL,den,hv,hs2 e e0 _ ag 0 (by omega)]
 refine qI.nilX (args':=[.agg [.v (.int .i64 c.fx),.v (.int .i64 c.ad),.v (.int .i64 c.ins),.x 1 [],.x 2 [],.v (.slice none 0 0),.v (.slice none 0 0)],.v (.int .i64 k),.agg [.x 0 [],.v (.slice none 0 0),.v (.slice none 0 0),.v (.slice none 0 0)]]) 1 (cI c.5) ?_ ?_ ?_
 ·simp [wsL,ws]
 ·intro e e0 hv ag
  simp only[List.length_cons,List.length_nil,List.length_append] at hv ag
  simp [qL,den,hv,hs2 e e0 _ ag 0 (by omega),hs2 e e0 _ ag 1 (by omega)]
 refine qI.nilX (args':=[.agg [.v (.int .i64 c.fx),.v (.int .i64 c.ad),.v (.int .i64 c.ins),.x 1 [],.x 2 [],.x 3 [],.v (.slice none 0 0)],.v (.int .i64 k),.agg [.x 0 [],.v (.slice none 0 0),.v (.slice none 0 0),.v (.slice none 0 0)]]) 2 (cL c.6) ?_ ?_ ?_
 ·simp [wsL,ws]
 ·intro e e0 hv ag
  simp only[List.length_cons,List.length_nil,List.length_append] at hv ag
  simp [qL,den,hv,hs2 e e0 _ ag 0 (by omega),hs2 e e0 _ ag 1 (by omega),hs2 e e0 _ ag 2 (by omega)]
 refine qI.nilX (args':=[.agg [.v (.int .i64 c.fx),.v (.int .i64 c.ad),.v (.int .i64 c.ins),.x 1 [],.x 2 [],.x 3 [],.x 4 []],.v (.int .i64 k),.agg [.x 0 [],.v (.slice none 0 0),.v (.slice none 0 0),.v (.slice none 0 0)]]) 2 (cK c.7) ?_ ?_ ?_
 ·simp [wsL,ws]
 ·intro e e0 hv ag
  simp only[List.length_cons,List.length_nil,List.length_append] at hv ag
  simp [qL,den,hv,hs2 e e0 _ ag 0 (by omega),hs2 e e0 _ ag 1 (by omega),hs2 e e0 _ ag 2 (by omega),hs2 e e0 _ ag 3 (by omega)]
 refine qI.nilX (args':=[.agg [.v (.int .i64 c.fx),.v (.int .i64 c.ad),.v (.int .i64 c.ins),.x 1 [],.x 2 [],.x 3 [],.x 4 []],.v (.int .i64 k),.agg [.x 0 [],.x 5 [],.v (.slice none 0 0),.v (.slice none 0 0)]]) 2 (cTa p.2) ?_ ?_ ?_
 ·simp [wsL,ws]
 ·intro e e0 hv ag
  simp only[List.length_cons,List.length_nil,List.length_append] at hv ag
  simp [qL,den,hv,hs2 e e0 _ ag 0 (by omega),hs2 e e0 _ ag 1 (by omega),hs2 e e0 _ ag 2 (by omega),hs2 e e0 _ ag 3 (by omega),hs2 e e0 _ ag 4 (by omega)]
 refine qI.nilX (args':=[.agg [.v (.int .i64 c.fx),.v (.int .i64 c.ad),.v (.int .i64 c.ins),.x 1 [],.x 2 [],.x 3 [],.x 4 []],.v (.int .i64 k),.agg [.x 0 [],.x 5 [],.x 6 [],.v (.slice none 0 0)]]) 6 (cLk p.3) ?_ ?_ ?_
 ·simp [wsL,ws]
 ·intro e e0 hv ag
  simp only[List.length_cons,List.length_nil,List.length_append] at hv ag
  simp [qL,den,hv,hs2 e e0 _ ag 0 (by omega),hs2 e e0 _ ag 1 (by omega),hs2 e e0 _ ag 2 (by omega),hs2 e e0 _ ag 3 (by omega),hs2 e e0 _ ag 4 (by omega),hs2 e e0 _ ag 5 (by omega)]
 refine qI.nilX (args':=[.agg [.v (.int .i64 c.fx),.v (.int .i64 c.ad),.v (.int .i64 c.ins),.x 1 [],.x 2 [],.x 3 [],.x 4 []],.v (.int .i64 k),.agg [.x 0 [],.x 5 [],.x 6 [],.x 7 []]]) 1 (cT p.4) ?_ ?_ ?_
 ·simp [wsL,ws]
 ·intro e e0 hv ag
  simp only[List.length_cons,List.length_nil,List.length_append] at hv ag
  simp [qL,den,hv,hs2 e e0 _ ag 0 (by omega),hs2 e e0 _ ag 1 (by omega),hs2 e e0 _ ag 2 (by omega),hs2 e e0 _ ag 3 (by omega),hs2 e e0 _ ag 4 (by omega),hs2 e e0 _ ag 5 (by omega),hs2 e e0 _ ag 6 (by omega)]
 refine qI.gcA (args':=[.agg [.v (.int .i64 c.fx),.v (.int .i64 c.ad),.v (.int .i64 c.ins),.x 0 [],.x 1 [],.x 2 [],.x 3 []],.v (.int .i64 k),.agg [.x 4 [],.x 5 [],.x 6 [],.x 7 []]]) (h':=[.ext false (.s false 7 0 (cN c.4)),.ext false (.s false 1 0 (cI c.5)),.ext false (.s false 2 0 (cL c.6)),.ext false (.s false 2 0 (cK c.7)),.ext false (.s false 2 p.1.length (cRg p.1)),.ext false (.s false 2 0 (cTa p.2)),.ext false (.s false 6 0 (cLk p.3)),.ext false (.s false 1 0 (cT p.4))]) [1,2,3,4,0,5,6,7] (by kernel_rfl) (by kernel_rfl) (by kernel_rfl) ?_
 have:=qXr c hc p hp k Q h1 h2
 rw[e0,e1,e2,e3,e5,e6,e7] at this
 rw[e0,e1,e2,e3,e5,e6,e7]
 exact this
noncomputable def qYy:List SV→List HO→Option ((SV→List HO→Prop)→Prop)
 | [.agg [.v (.int .i64 fx),.v (.int .i64 ad),.v (.int .i64 ins),.v (.slice none 0 0),.v (.slice none 0 0),.v (.slice none 0 0),.v (.slice none 0 0)],.v (.int .i64 k),.agg [.x 0 [],.v (.slice none 0 0),.v (.slice none 0 0),.v (.slice none 0 0)]],[.ext false (.s false 2 m0 d0)]=>some fun Q=>lLy fx ad ins k 0 0 0 0 m0 0 0 0 (cN []) (cI []) (cL []) (cK []) d0 (cTa []) (cLk []) (cT []) (fun e=>Q (.tup [.agg [.v (.slice none 0 0),.v (.slice none 0 0),.v (.slice none 0 0),.v (.slice none 0 0)],.v (.slice none 0 0),.v (.int .i64 e)]) []) (fun s ss=>Q (.tup [.agg [.x 0 [],.x 1 [],.x 2 [],.x 3 []],.x 4 [],.v (.int .i64 0)]) [.ext false (.s false 1 s.fx.length (cT s.fx)),.ext false (.s false 1 s.ad.length (cT s.ad)),.ext false (.s false 1 s.is.length (cT s.is)),.ext false (.s false 4 s.cp.length (cP s.cp)),.ext false (.s false 1 ss.length (cI ss))])
 | _,_=>none
theorem zBz(args:List SV)(h:List HO)(tr:(SV→List HO→Prop)→Prop)(Q:SV→List HO→Prop)(hc:qYy args h=some tr)(ht:tr Q):qI Try.prog 16 args h Q:=by
 unfold qYy at hc
 split at hc
 ·simp only[sI] at hc
  subst hc
  obtain⟨c,rfl,rfl,rfl,⟨z0,e0⟩,⟨z1,e1⟩,⟨z2,e2⟩,⟨z3,e3⟩,hk,ht2⟩:=ht.h.h.h
  obtain⟨p,⟨rfl,e4⟩,⟨z5,e5⟩,⟨z6,e6⟩,⟨z7,e7⟩,hp,hq⟩:=ht2.h
  exact qI.ac (zHr c hk p hp _ (List.eq_nil_of_length_eq_zero z0.symm) (List.eq_nil_of_length_eq_zero z1.symm) (List.eq_nil_of_length_eq_zero z2.symm) (List.eq_nil_of_length_eq_zero z3.symm) (List.eq_nil_of_length_eq_zero z5.symm) (List.eq_nil_of_length_eq_zero z6.symm) (List.eq_nil_of_length_eq_zero z7.symm) Q hq.1 hq.2) ⟨⟨rfl,rfl,rfl,rfl,e4⟩,trivial⟩
 ·cases hc
noncomputable def zWt:Con Try.prog:=zDa.add 16 (orL zHe (orL qYh qYy)) (qZo qRp (qZo qQt zBz))
end Go.Proofs.Ytlmjdcbhpffanaa
/- Plans copied: plain. -/
namespace Go.Pl
open Go.Sx
theorem zCo(f g:Nat→Nat→qB):qCl 0 f g=g:=by
 funext k j
 exact xL _ _ _ (Nat.zero_le _)
theorem zHb{l:List (Int×List Pt)}{k:Nat}(a:Int)(b:List Pt)(h:l.length=k):IsC (k+1) 2 (Ct.app k (.fn (cRg l)) (.lit 2 [.v (.int .i64 a),.s false 7 b.length (cPt b)])).at (Ct.fn (cRg (l++[(a,b)]))).at:=by
 subst h
 exact xY qYe (0,[]) 2 l (a,b) _ fun j hj=>by
  match j,hj with
  | 0,_=>rfl
  | 1,_=>rfl
theorem zFb{l:List (Int×List Nat)}{k:Nat}(a:Int)(b:List Nat)(h:l.length=k):IsC (k+1) 2 (Ct.app k (.fn (cTa l)) (.lit 2 [.v (.int .i64 a),.s false 4 b.length (cE b)])).at (Ct.fn (cTa (l++[(a,b)]))).at:=by
 subst h
 exact xY qYl (0,[]) 2 l (a,b) _ fun j hj=>by
  match j,hj with
  | 0,_=>rfl
  | 1,_=>rfl
theorem zGl{l:List (Int×List Pt)}{k:Nat}(h:k<l.length):l.take (k+1)=l.take k++[((gRg l k).1,(gRg l k).2)]:=by
 rw[List.take_add_one,gRg,List.getD_eq_getElem?_getD,List.getElem?_eq_getElem h]; rfl
theorem zGz{l:List (Int×List Nat)}{k:Nat}(h:k<l.length):l.take (k+1)=l.take k++[((gTa l k).1,(gTa l k).2)]:=by
 rw[List.take_add_one,gTa,List.getD_eq_getElem?_getD,List.getElem?_eq_getElem h]; rfl
end Go.Pl
namespace Go.Proofs.Ytlmjdcbhpffanaa
open Go.Sx Go.Pl
set_option linter.unusedVariables false
set_option maxRecDepth 100000
end Go.Proofs.Ytlmjdcbhpffanaa
/- Plans copied. -/
namespace Go.Proofs.Ytlmjdcbhpffanaa
open Go.Sx Go.Pl
set_option linter.unusedVariables false
set_option maxRecDepth 100000
theorem zXz(p:Pln)(K:List It→St→Prop)(R:SV→List HO→Prop):W (xwp Try.prog X zDa [] 60 (qO Try.f14 [] [⟨[0,1,0,1,1],[4,3,1,2],[]⟩,⟨[0,1,0,1,1,1,1],[6,5,3,1,2],[]⟩]) [] [.at []] ⟨qQ 0 [.agg [.x 0 [],.x 1 [],.x 2 [],.x 3 []]],[.ext false (.s false 2 p.1.length (cRg p.1)),.ext false (.s false 2 p.2.length (cTa p.2)),.ext false (.s false 6 p.3.length (cLk p.3)),.ext false (.s false 1 p.4.length (cT p.4))]⟩ K R)=W (K [.at [0,1,0,1,1],.blk 0,.at [1,1,1]] (St.mk [(4,.v (qA 0)),(3,.o 0),(1,.p 1 0),(2,.p 2 0)] [.rowc 43 2 0 (.lit 2 []),.cells [.x 3 [],.x 4 [],.x 5 [],.x 6 []] 33,.cells [.v (Value.slice none 0 0),.v (Value.slice none 0 0),.v (Value.slice none 0 0),.v (Value.slice none 0 0)] 33,.ext false (.s false 2 p.1.length (cRg p.1)),.ext false (.s false 2 p.2.length (cTa p.2)),.ext false (.s false 6 p.3.length (cLk p.3)),.ext false (.s false 1 p.4.length (cT p.4))])):=by kernel_rfl
theorem zSz(p:Pln)(rs:List (Int×List Pt))(m i M:Nat)(K:List It→St→Prop)(R:SV→List HO→Prop):W (xwp Try.prog X zDa [] 60 (qO Try.f14 [] [⟨[0,1,0,1,1],[4,3,1,2],[]⟩,⟨[0,1,0,1,1,1,1],[6,5,3,1,2],[]⟩]) [] (.at [0,0,1,0,1,1]::.rnd [0,0,1,0,1,1] M::[.blk 0,.at [1,1,1]]) (St.mk [(4,.v (qA (i:Int))),(3,.o 0),(1,.p 1 0),(2,.p 2 0)] [.rowc 43 2 m (.fn (cRg rs)),.cells [.x 3 [],.x 4 [],.x 5 [],.x 6 []] 33,.cells [.v (Value.slice none 0 0),.v (Value.slice none 0 0),.v (Value.slice none 0 0),.v (Value.slice none 0 0)] 33,.ext false (.s false 2 p.1.length (cRg p.1)),.ext false (.s false 2 p.2.length (cTa p.2)),.ext false (.s false 6 p.3.length (cLk p.3)),.ext false (.s false 1 p.4.length (cT p.4))]) K R)=W (bif decide ((↑i:Int)<(↑p.1.length:Int)) then((∀ M:Mem,(0:Int)≤(↑i:Int)∧(↑i:Int)<(↑p.1.length:Int))∧(∀ M:Mem,i<List.length p.1)∧(∀ M:Mem,i<List.length p.1)∧(∀ M:Mem,(0:Int)≤(↑i:Int)∧(↑i:Int)<(↑p.1.length:Int))∧(∀ M:Mem,i<List.length p.1)∧(∀ M:Mem,i<List.length p.1)∧(∀ M:Mem,i<List.length p.1)∧(∀ M:Mem,(0+List.length (gRg p.1 i).2)*56≤140737488355328∧0+List.length (gRg p.1 i).2≤140737488355328)∧(∀ M:Mem,(m+1)*32≤140737488355328∧m+1≤140737488355328)∧K [.rnd [0,0,1,0,1,1] M,.blk 0,.at [1,1,1]] (St.mk [(4,.v (qA (IntKind.wrap .i64 ((↑i:Int)+(1:Int))))),(3,.o 0),(1,.p 1 0),(2,.p 2 0)] [.rowc 43 2 (m+1) (.app m (.fn (cRg rs)) (.lit 2 [.v (qA (gRg p.1 i).1),.s false 7 (0+List.length (gRg p.1 i).2) (qCl 0 (lc 7 []) (cPt (gRg p.1 i).2))])),.cells [.x 3 [],.x 4 [],.x 5 [],.x 6 []] 33,.cells [.v (Value.slice none 0 0),.v (Value.slice none 0 0),.v (Value.slice none 0 0),.v (Value.slice none 0 0)] 33,.ext false (.s false 2 p.1.length (cRg p.1)),.ext false (.s false 2 p.2.length (cTa p.2)),.ext false (.s false 6 p.3.length (cLk p.3)),.ext false (.s false 1 p.4.length (cT p.4))]))∧((∀ M:Mem,(0:Int)≤(↑i:Int)∧(↑i:Int)<(↑p.1.length:Int))∧(∀ M:Mem,i<List.length p.1)∧(∀ M:Mem,i<List.length p.1)∧(∀ M:Mem,(0:Int)≤(↑i:Int)∧(↑i:Int)<(↑p.1.length:Int))∧(∀ M:Mem,i<List.length p.1)∧(∀ M:Mem,i<List.length p.1)∧(∀ M:Mem,i<List.length p.1)∧(∀ M:Mem,(0+List.length (gRg p.1 i).2)*56≤140737488355328∧0+List.length (gRg p.1 i).2≤140737488355328)∧(∀ M:Mem,(m+1)*32≤140737488355328∧m+1≤140737488355328)∧K [.rnd [0,0,1,0,1,1] M,.blk 0,.at [1,1,1]] (St.mk [(4,.v (qA (IntKind.wrap .i64 ((↑i:Int)+(1:Int))))),(3,.o 0),(1,.p 1 0),(2,.p 2 0)] [.rowc 43 2 (m+1) (.app m (.fn (cRg rs)) (.lit 2 [.v (qA (gRg p.1 i).1),.s false 7 (0+List.length (gRg p.1 i).2) (qCl 0 (lc 7 []) (cPt (gRg p.1 i).2))])),.cells [.x 3 [],.x 4 [],.x 5 [],.x 6 []] 33,.cells [.v (Value.slice none 0 0),.v (Value.slice none 0 0),.v (Value.slice none 0 0),.v (Value.slice none 0 0)] 33,.ext false (.s false 2 p.1.length (cRg p.1)),.ext false (.s false 2 p.2.length (cTa p.2)),.ext false (.s false 6 p.3.length (cLk p.3)),.ext false (.s false 1 p.4.length (cT p.4))]))∧((∀ M:Mem,(0:Int)≤(↑i:Int)∧(↑i:Int)<(↑p.1.length:Int))∧(∀ M:Mem,i<List.length p.1)∧(∀ M:Mem,i<List.length p.1)∧(∀ M:Mem,(0:Int)≤(↑i:Int)∧(↑i:Int)<(↑p.1.length:Int))∧(∀ M:Mem,i<List.length p.1)∧(∀ M:Mem,i<List.length p.1)∧(∀ M:Mem,(0+List.length (gRg p.1 i).2)*56≤140737488355328∧0+List.length (gRg p.1 i).2≤140737488355328)∧(∀ M:Mem,i<List.length p.1)∧(∀ M:Mem,(m+1)*32≤140737488355328∧m+1≤140737488355328)∧K [.rnd [0,0,1,0,1,1] M,.blk 0,.at [1,1,1]] (St.mk [(4,.v (qA (IntKind.wrap .i64 ((↑i:Int)+(1:Int))))),(3,.o 0),(1,.p 1 0),(2,.p 2 0)] [.rowc 43 2 (m+1) (.app m (.fn (cRg rs)) (.lit 2 [.v (qA (gRg p.1 i).1),.s false 7 (0+List.length (gRg p.1 i).2) (qCl 0 (lc 7 []) (cPt (gRg p.1 i).2))])),.cells [.x 3 [],.x 4 [],.x 5 [],.x 6 []] 33,.cells [.v (Value.slice none 0 0),.v (Value.slice none 0 0),.v (Value.slice none 0 0),.v (Value.slice none 0 0)] 33,.ext false (.s false 2 p.1.length (cRg p.1)),.ext false (.s false 2 p.2.length (cTa p.2)),.ext false (.s false 6 p.3.length (cLk p.3)),.ext false (.s false 1 p.4.length (cT p.4))]))∧((∀ M:Mem,(0:Int)≤(↑i:Int)∧(↑i:Int)<(↑p.1.length:Int))∧(∀ M:Mem,i<List.length p.1)∧(∀ M:Mem,i<List.length p.1)∧(∀ M:Mem,(0:Int)≤(↑i:Int)∧(↑i:Int)<(↑p.1.length:Int))∧(∀ M:Mem,i<List.length p.1)∧(∀ M:Mem,i<List.length p.1)∧(∀ M:Mem,i<List.length p.1)∧(∀ M:Mem,(0+List.length (gRg p.1 i).2)*56≤140737488355328∧0+List.length (gRg p.1 i).2≤140737488355328)∧(∀ M:Mem,(m+1)*32≤140737488355328∧m+1≤140737488355328)∧K [.rnd [0,0,1,0,1,1] M,.blk 0,.at [1,1,1]] (St.mk [(4,.v (qA (IntKind.wrap .i64 ((↑i:Int)+(1:Int))))),(3,.o 0),(1,.p 1 0),(2,.p 2 0)] [.rowc 43 2 (m+1) (.app m (.fn (cRg rs)) (.lit 2 [.v (qA (gRg p.1 i).1),.s false 7 (0+List.length (gRg p.1 i).2) (qCl 0 (lc 7 []) (cPt (gRg p.1 i).2))])),.cells [.x 3 [],.x 4 [],.x 5 [],.x 6 []] 33,.cells [.v (Value.slice none 0 0),.v (Value.slice none 0 0),.v (Value.slice none 0 0),.v (Value.slice none 0 0)] 33,.ext false (.s false 2 p.1.length (cRg p.1)),.ext false (.s false 2 p.2.length (cTa p.2)),.ext false (.s false 6 p.3.length (cLk p.3)),.ext false (.s false 1 p.4.length (cT p.4))]))∧((∀ M:Mem,(0:Int)≤(↑i:Int)∧(↑i:Int)<(↑p.1.length:Int))∧(∀ M:Mem,i<List.length p.1)∧(∀ M:Mem,i<List.length p.1)∧(∀ M:Mem,(0:Int)≤(↑i:Int)∧(↑i:Int)<(↑p.1.length:Int))∧(∀ M:Mem,i<List.length p.1)∧(∀ M:Mem,i<List.length p.1)∧(∀ M:Mem,(0+List.length (gRg p.1 i).2)*56≤140737488355328∧0+List.length (gRg p.1 i).2≤140737488355328)∧(∀ M:Mem,i<List.length p.1)∧(∀ M:Mem,(m+1)*32≤140737488355328∧m+1≤140737488355328)∧K [.rnd [0,0,1,0,1,1] M,.blk 0,.at [1,1,1]] (St.mk [(4,.v (qA (IntKind.wrap .i64 ((↑i:Int)+(1:Int))))),(3,.o 0),(1,.p 1 0),(2,.p 2 0)] [.rowc 43 2 (m+1) (.app m (.fn (cRg rs)) (.lit 2 [.v (qA (gRg p.1 i).1),.s false 7 (0+List.length (gRg p.1 i).2) (qCl 0 (lc 7 []) (cPt (gRg p.1 i).2))])),.cells [.x 3 [],.x 4 [],.x 5 [],.x 6 []] 33,.cells [.v (Value.slice none 0 0),.v (Value.slice none 0 0),.v (Value.slice none 0 0),.v (Value.slice none 0 0)] 33,.ext false (.s false 2 p.1.length (cRg p.1)),.ext false (.s false 2 p.2.length (cTa p.2)),.ext false (.s false 6 p.3.length (cLk p.3)),.ext false (.s false 1 p.4.length (cT p.4))]))∧(∀ M:Mem,(0:Int)≤(↑i:Int)∧(↑i:Int)<(↑p.1.length:Int))∧(∀ M:Mem,i<List.length p.1)∧(∀ M:Mem,i<List.length p.1)∧(∀ M:Mem,i<List.length p.1)∧(∀ M:Mem,(0+List.length (gRg p.1 i).2)*56≤140737488355328∧0+List.length (gRg p.1 i).2≤140737488355328)∧(∀ M:Mem,(0:Int)≤(↑i:Int)∧(↑i:Int)<(↑p.1.length:Int))∧(∀ M:Mem,i<List.length p.1)∧(∀ M:Mem,i<List.length p.1)∧(∀ M:Mem,(m+1)*32≤140737488355328∧m+1≤140737488355328)∧K [.rnd [0,0,1,0,1,1] M,.blk 0,.at [1,1,1]] (St.mk [(4,.v (qA (IntKind.wrap .i64 ((↑i:Int)+(1:Int))))),(3,.o 0),(1,.p 1 0),(2,.p 2 0)] [.rowc 43 2 (m+1) (.app m (.fn (cRg rs)) (.lit 2 [.v (qA (gRg p.1 i).1),.s false 7 (0+List.length (gRg p.1 i).2) (qCl 0 (lc 7 []) (cPt (gRg p.1 i).2))])),.cells [.x 3 [],.x 4 [],.x 5 [],.x 6 []] 33,.cells [.v (Value.slice none 0 0),.v (Value.slice none 0 0),.v (Value.slice none 0 0),.v (Value.slice none 0 0)] 33,.ext false (.s false 2 p.1.length (cRg p.1)),.ext false (.s false 2 p.2.length (cTa p.2)),.ext false (.s false 6 p.3.length (cLk p.3)),.ext false (.s false 1 p.4.length (cT p.4))]) else K [.at [0,1,0,1,1,1,1],.blk 2,.at [1,1,1,1,1]] (St.mk [(6,.v (qA 0)),(5,.o 0),(3,.o 1),(1,.p 2 0),(2,.p 3 0)] [.rowc 46 2 0 (.lit 2 []),.rowc 43 2 m (.fn (cRg rs)),.cells [.x 4 [],.x 5 [],.x 6 [],.x 7 []] 33,.cells [.v (Value.slice none 0 0),.v (Value.slice none 0 0),.v (Value.slice none 0 0),.v (Value.slice none 0 0)] 33,.ext false (.s false 2 p.1.length (cRg p.1)),.ext false (.s false 2 p.2.length (cTa p.2)),.ext false (.s false 6 p.3.length (cLk p.3)),.ext false (.s false 1 p.4.length (cT p.4))])):=by kernel_rfl
theorem zTu(p:Pln)(rs:List (Int×List Pt))(ts:List (Int×List Nat))(m n i M:Nat)(K:List It→St→Prop)(R:SV→List HO→Prop):W (xwp Try.prog X zDa [] 60 (qO Try.f14 [] [⟨[0,1,0,1,1],[4,3,1,2],[]⟩,⟨[0,1,0,1,1,1,1],[6,5,3,1,2],[]⟩]) [] (.at [0,0,1,0,1,1,1,1]::.rnd [0,0,1,0,1,1,1,1] M::[.blk 2,.at [1,1,1,1,1]]) (St.mk [(6,.v (qA (i:Int))),(5,.o 0),(3,.o 1),(1,.p 2 0),(2,.p 3 0)] [.rowc 46 2 n (.fn (cTa ts)),.rowc 43 2 m (.fn (cRg rs)),.cells [.x 4 [],.x 5 [],.x 6 [],.x 7 []] 33,.cells [.v (Value.slice none 0 0),.v (Value.slice none 0 0),.v (Value.slice none 0 0),.v (Value.slice none 0 0)] 33,.ext false (.s false 2 p.1.length (cRg p.1)),.ext false (.s false 2 p.2.length (cTa p.2)),.ext false (.s false 6 p.3.length (cLk p.3)),.ext false (.s false 1 p.4.length (cT p.4))]) K R)=W (bif decide ((↑i:Int)<(↑p.2.length:Int)) then(∀ M:Mem,(0:Int)≤(↑i:Int)∧(↑i:Int)<(↑p.2.length:Int))∧(∀ M:Mem,i<List.length p.2)∧(∀ M:Mem,i<List.length p.2)∧(∀ M:Mem,(0:Int)≤(↑i:Int)∧(↑i:Int)<(↑p.2.length:Int))∧(∀ M:Mem,i<List.length p.2)∧(∀ M:Mem,i<List.length p.2)∧(∀ M:Mem,i<List.length p.2)∧lE (List.length (gTa p.2 i).2) (cE (gTa p.2 i).2) fun(l:List Nat)=>(∀ M:Mem,(n+1)*32≤140737488355328∧n+1≤140737488355328)∧K [.rnd [0,0,1,0,1,1,1,1] M,.blk 2,.at [1,1,1,1,1]] (St.mk [(6,.v (qA (IntKind.wrap .i64 ((↑i:Int)+(1:Int))))),(5,.o 0),(3,.o 1),(1,.p 2 0),(2,.p 3 0)] [.rowc 46 2 (n+1) (.app n (.fn (cTa ts)) (.lit 2 [.v (qA (gTa p.2 i).1),.s false 4 l.length (cE l)])),.rowc 43 2 m (.fn (cRg rs)),.cells [.x 4 [],.x 5 [],.x 6 [],.x 7 []] 33,.cells [.v (Value.slice none 0 0),.v (Value.slice none 0 0),.v (Value.slice none 0 0),.v (Value.slice none 0 0)] 33,.ext false (.s false 2 p.1.length (cRg p.1)),.ext false (.s false 2 p.2.length (cTa p.2)),.ext false (.s false 6 p.3.length (cLk p.3)),.ext false (.s false 1 p.4.length (cT p.4))]) else((∀ M:Mem,(0+List.length p.3)*48≤140737488355328∧0+List.length p.3≤140737488355328)∧lT p.4.length (cT p.4) fun(l:List (List Nat))=>(∀ M:Mem,0+4≤4)∧R (.agg [.o 0,.o 1,.o 2,.x 3 []]) [.rowc 43 2 m (.fn (cRg rs)),.rowc 46 2 n (.fn (cTa ts)),.rowc 101 6 (0+List.length p.3) (.app 0 (.lit 6 []) (.fn (cLk p.3))),.ext false (.s false 1 l.length (cT l))])∧((∀ M:Mem,(0+List.length p.3)*48≤140737488355328∧0+List.length p.3≤140737488355328)∧lT p.4.length (cT p.4) fun(l:List (List Nat))=>(∀ M:Mem,0+4≤4)∧R (.agg [.o 0,.o 1,.o 2,.x 3 []]) [.rowc 43 2 m (.fn (cRg rs)),.rowc 46 2 n (.fn (cTa ts)),.rowc 101 6 (0+List.length p.3) (.app 0 (.lit 6 []) (.fn (cLk p.3))),.ext false (.s false 1 l.length (cT l))])∧(∀ M:Mem,(0+List.length p.3)*48≤140737488355328∧0+List.length p.3≤140737488355328)∧lT p.4.length (cT p.4) fun(l:List (List Nat))=>(∀ M:Mem,0+4≤4)∧R (.agg [.o 0,.o 1,.o 2,.x 3 []]) [.rowc 43 2 m (.fn (cRg rs)),.rowc 46 2 n (.fn (cTa ts)),.rowc 101 6 (0+List.length p.3) (.app 0 (.lit 6 []) (.fn (cLk p.3))),.ext false (.s false 1 l.length (cT l))]):=by kernel_rfl
theorem qQo(p:Pln)(hp:p.ok)(Q:SV→List HO→Prop)(hq:FOk Try.prog Try.f14 Q (.at [0,1,0,1,1,1,1]::[.blk 2,.at [1,1,1,1,1]]) (St.mk [(6,SV.v (qA (0:Int))),(5,SV.o 0),(3,SV.o 1),(1,SV.p 2 0),(2,SV.p 3 0)] [HO.rowc 46 2 0 (Ct.lit 2 []),HO.rowc 43 2 p.rg.length (Ct.fn (cRg p.rg)),HO.cells [SV.x 4 [],SV.x 5 [],SV.x 6 [],SV.x 7 []] 33,HO.cells [SV.v (Value.slice none 0 0),SV.v (Value.slice none 0 0),SV.v (Value.slice none 0 0),SV.v (Value.slice none 0 0)] 33,HO.ext false (qB.s false 2 (List.length p.1) (cRg p.1)),HO.ext false (qB.s false 2 (List.length p.2) (cTa p.2)),HO.ext false (qB.s false 6 (List.length p.3) (cLk p.3)),HO.ext false (qB.s false 1 (List.length p.4) (cT p.4))])):∀(d i:Nat) (rs:List (Int×List Pt)),i+d=p.rg.length→rs=p.rg.take i →
  FOk Try.prog Try.f14 Q (.rnd [0,0,1,0,1,1] (d+1)::[.blk 0,.at [1,1,1]]) (St.mk [(4,SV.v (qA (i:Int))),(3,SV.o 0),(1,SV.p 1 0),(2,SV.p 2 0)] [HO.rowc 43 2 rs.length (Ct.fn (cRg rs)),HO.cells [SV.x 3 [],SV.x 4 [],SV.x 5 [],SV.x 6 []] 33,HO.cells [SV.v (Value.slice none 0 0),SV.v (Value.slice none 0 0),SV.v (Value.slice none 0 0),SV.v (Value.slice none 0 0)] 33,HO.ext false (qB.s false 2 (List.length p.1) (cRg p.1)),HO.ext false (qB.s false 2 (List.length p.2) (cTa p.2)),HO.ext false (qB.s false 6 (List.length p.3) (cLk p.3)),HO.ext false (qB.s false 1 (List.length p.4) (cT p.4))])
 | 0,i,rs,hd,hr=>by
  refine FOk.rnd (qE hm 60 ((zSz p rs rs.length i 0 _ _).mpr ⟨?_⟩))
  rw[qF,if_neg (by omega)]
  obtain rfl:rs=p.rg:=by rw[hr,show i=p.rg.length by omega,List.take_length]
  exact hq
 | d+1,i,rs,hd,hr=>by
  have hi:i<p.rg.length:=by omega
  have hlen:rs.length=i:=by rw[hr,List.length_take]; omega
  have hb:=hp.r.2
  have hb2:=(hp.r.1 _ (xK hi)).2.2
  have ih:=qQo p hp Q hq d (i+1) (rs++[((gRg p.rg i).1,(gRg p.rg i).2)]) (by omega) (by rw[hr,zGl hi])
  refine FOk.rnd (qE hm 60 ((zSz p rs rs.length i (d+1) _ _).mpr ⟨?_⟩))
  rw[qF,if_pos (by omega),qN _ (by omega),Nat.zero_add,zCo]
  repeat' (first | refine And.intro (fun _=>by omega) ?_ | refine And.intro ?_ ?_)
  all_goals exact FOk.cv ih ⟨⟨rfl,rfl,by rw[List.length_append]; rfl,zHb _ _ rfl⟩,HE.refl _,HE.refl _,HE.refl _,HE.refl _,HE.refl _,HE.refl _,trivial⟩
theorem qQz(p:Pln)(hp:p.ok)(Q:SV→List HO→Prop)(hq:Q (.agg [.o 0,.o 1,.o 2,.x 3 []]) [HO.rowc 43 2 p.rg.length (Ct.fn (cRg p.rg)),HO.rowc 46 2 p.tb.length (Ct.fn (cTa p.tb)),HO.rowc 101 6 (0+p.lk.length) (Ct.app 0 (Ct.lit 6 []) (Ct.fn (cLk p.lk))),HO.ext false (qB.s false 1 p.is.length (cT p.is))]):∀(d i:Nat) (ts:List (Int×List Nat)),i+d=p.tb.length→ts=p.tb.take i →
  FOk Try.prog Try.f14 Q (.rnd [0,0,1,0,1,1,1,1] (d+1)::[.blk 2,.at [1,1,1,1,1]]) (St.mk [(6,SV.v (qA (i:Int))),(5,SV.o 0),(3,SV.o 1),(1,SV.p 2 0),(2,SV.p 3 0)] [HO.rowc 46 2 ts.length (Ct.fn (cTa ts)),HO.rowc 43 2 p.rg.length (Ct.fn (cRg p.rg)),HO.cells [SV.x 4 [],SV.x 5 [],SV.x 6 [],SV.x 7 []] 33,HO.cells [SV.v (Value.slice none 0 0),SV.v (Value.slice none 0 0),SV.v (Value.slice none 0 0),SV.v (Value.slice none 0 0)] 33,HO.ext false (qB.s false 2 (List.length p.1) (cRg p.1)),HO.ext false (qB.s false 2 (List.length p.2) (cTa p.2)),HO.ext false (qB.s false 6 (List.length p.3) (cLk p.3)),HO.ext false (qB.s false 1 (List.length p.4) (cT p.4))])
 | 0,i,ts,hd,hr=>by
  have hb:=hp.l.2
  refine FOk.rnd (qE hm 60 ((zTu p p.rg ts p.rg.length ts.length i 0 _ _).mpr ⟨?_⟩))
  rw[qF,if_neg (by omega)]
  obtain rfl:ts=p.tb:=by rw[hr,show i=p.tb.length by omega,List.take_length]
  repeat' (first | refine And.intro (fun _=>by omega) ?_ | refine And.intro ?_ ?_)
  all_goals exact qLt hp.i (And.intro (fun _=>by omega) hq)
 | d+1,i,ts,hd,hr=>by
  have hi:i<p.tb.length:=by omega
  have hlen:ts.length=i:=by rw[hr,List.length_take]; omega
  have hb:=hp.t.2
  have hb2:=(hp.t.1 _ (qBd hi)).2.2
  have ih:=qQz p hp Q hq d (i+1) (ts++[((gTa p.tb i).1,(gTa p.tb i).2)]) (by omega) (by rw[hr,zGz hi])
  refine FOk.rnd (qE hm 60 ((zTu p p.rg ts p.rg.length ts.length i (d+1) _ _).mpr ⟨?_⟩))
  rw[qF,if_pos (by omega),qN _ (by omega)]
  repeat' (refine And.intro (fun _=>by omega) ?_)
  refine⟨⟨(gTa p.tb i).2,rfl,IsC.refl _ _ _,by omega,(hp.t.1 _ (qBd hi)).2.1,?_⟩⟩
  repeat' (refine And.intro (fun _=>by omega) ?_)
  exact FOk.cv ih ⟨⟨rfl,rfl,by rw[List.length_append]; rfl,zFb _ _ rfl⟩,HE.refl _,HE.refl _,HE.refl _,HE.refl _,HE.refl _,HE.refl _,HE.refl _,trivial⟩
theorem zXb:Try.f14.body.isSome=true:=by kernel_rfl
theorem jAn:Nat.ble ([.agg [.x 0 [],.x 1 [],.x 2 [],.x 3 []]]:List SV).length Try.f14.ntmps=true:=by kernel_rfl
theorem zRb(p:Pln)(hp:p.ok)(Q:SV→List HO→Prop)(hq:Q (.agg [.x 0 [],.x 1 [],.x 2 [],.x 3 []]) [.ext false (.s false 2 p.1.length (cRg p.1)),.ext false (.s false 2 p.2.length (cTa p.2)),.ext false (.s false 6 p.3.length (cLk p.3)),.ext false (.s false 1 p.4.length (cT p.4))]):qI Try.prog 14 [.agg [.x 0 [],.x 1 [],.x 2 [],.x 3 []]] [.ext false (.s false 2 p.1.length (cRg p.1)),.ext false (.s false 2 p.2.length (cTa p.2)),.ext false (.s false 6 p.3.length (cLk p.3)),.ext false (.s false 1 p.4.length (cT p.4))] Q:=by
 have h0:qI Try.prog 14 [.agg [.x 0 [],.x 1 [],.x 2 [],.x 3 []]] [.ext false (.s false 2 p.1.length (cRg p.1)),.ext false (.s false 2 p.2.length (cTa p.2)),.ext false (.s false 6 p.3.length (cLk p.3)),.ext false (.s false 1 p.4.length (cT p.4))] (fun r h'=>r=.agg [.o 0,.o 1,.o 2,.x 3 []]∧HEs h' [HO.rowc 43 2 p.rg.length (Ct.fn (cRg p.rg)),HO.rowc 46 2 p.tb.length (Ct.fn (cTa p.tb)),HO.rowc 101 6 p.lk.length (Ct.fn (cLk p.lk)),HO.ext false (qB.s false 1 p.is.length (cT p.is))]):=by
  refine qJ Try.func14 zXb jAn ?_
  refine qE hm 60 ((zXz p _ _).mpr ⟨?_⟩)
  refine FOk.loop (p.rg.length+1) (by kernel_rfl) (FOk.cv (qQo p hp _ ?_ p.rg.length 0 [] (by omega) rfl) ⟨⟨rfl,rfl,rfl,fun k hk=>absurd hk (Nat.not_lt_zero k)⟩,HE.refl _,HE.refl _,HE.refl _,HE.refl _,HE.refl _,HE.refl _,trivial⟩)
  refine FOk.loop (p.tb.length+1) (by kernel_rfl) (FOk.cv (qQz p hp _ ?_ p.tb.length 0 [] (by omega) rfl) ⟨⟨rfl,rfl,rfl,fun k hk=>absurd hk (Nat.not_lt_zero k)⟩,HE.refl _,HE.refl _,HE.refl _,HE.refl _,HE.refl _,HE.refl _,HE.refl _,trivial⟩)
  exact⟨rfl,HE.refl _,HE.refl _,⟨rfl,rfl,Nat.zero_add _,fun k hk j hj=>xL _ _ _ (Nat.zero_le _)⟩,HE.refl _,trivial⟩
 have h1:=qI.frz1 0 (T:=43) (sz:=2) (n:=p.rg.length) (c:=.fn (cRg p.rg)) (by kernel_rfl) (qI.eqv h0)
 have h2:=qI.frz1 1 (T:=46) (sz:=2) (n:=p.tb.length) (c:=.fn (cTa p.tb)) (by kernel_rfl) h1
 have h3:=qI.frz1 2 (T:=101) (sz:=6) (n:=p.lk.length) (c:=.fn (cLk p.lk)) (by kernel_rfl) h2
 have h4:=qI.gc (r1:=.agg [.x 0 [],.x 1 [],.x 2 [],.x 3 []]) (h1:=[.ext false (.s false 2 p.1.length (cRg p.1)),.ext false (.s false 2 p.2.length (cTa p.2)),.ext false (.s false 6 p.3.length (cLk p.3)),.ext false (.s false 1 p.4.length (cT p.4))]) (by kernel_rfl) h3
 exact qI.mono h4 fun r h' hh=>by rw[hh.1,hh.2]; exact hq
noncomputable def zQl:List SV→List HO→Option ((SV→List HO→Prop)→Prop)
 | [.agg [.x 0 [],.x 1 [],.x 2 [],.x 3 []]],[.ext false (.s false 2 m0 d0),.ext false (.s false 2 m1 d1),.ext false (.s false 6 m2 d2),.ext false (.s false 1 m3 d3)] =>
  some fun Q=>lPn m0 m1 m2 m3 d0 d1 d2 d3 fun p=>Q (.agg [.x 0 [],.x 1 [],.x 2 [],.x 3 []]) [.ext false (.s false 2 p.1.length (cRg p.1)),.ext false (.s false 2 p.2.length (cTa p.2)),.ext false (.s false 6 p.3.length (cLk p.3)),.ext false (.s false 1 p.4.length (cT p.4))]
 | _,_=>none
theorem zHq(args:List SV)(h:List HO)(tr:(SV→List HO→Prop)→Prop)(Q:SV→List HO→Prop)(hc:zQl args h=some tr)(ht:tr Q):qI Try.prog 14 args h Q:=by
 unfold zQl at hc
 split at hc
 ·simp only[sI] at hc
  subst hc
  obtain⟨p,⟨rfl,e4⟩,⟨rfl,e5⟩,⟨rfl,e6⟩,⟨rfl,e7⟩,hp,hq⟩:=ht.h
  exact qI.ac (zRb p hp Q hq) ⟨⟨rfl,rfl,rfl,rfl,e4⟩,⟨rfl,rfl,rfl,rfl,e5⟩,⟨rfl,rfl,rfl,rfl,e6⟩,⟨rfl,rfl,rfl,rfl,e7⟩,trivial⟩
 ·cases hc
noncomputable def zYb:Con Try.prog:=zWt.add 14 zQl zHq
end Go.Proofs.Ytlmjdcbhpffanaa
/- Is a case great: plain. -/
namespace Go.Pl
structure lBo (k : Bool → Prop) : Prop where
  h : ∀ b, k b
end Go.Pl
namespace Go.Proofs.Ytlmjdcbhpffanaa
open Go.Sx Go.Pl
set_option linter.unusedVariables false
set_option maxRecDepth 100000
end Go.Proofs.Ytlmjdcbhpffanaa
/- Is a case great. -/
namespace Go.Proofs.Ytlmjdcbhpffanaa
open Go.Sx Go.Pl
set_option linter.unusedVariables false
set_option maxRecDepth 100000
theorem zZx(c:Cir)(p:Pln)(K:List It→St→Prop)(R:SV→List HO→Prop):W (xwp Try.prog X zDa [] 60 (qO Try.f11 [] [⟨[0,1,0,1,1],[6,5,2,3],[]⟩]) [] [.at []] ⟨qQ 0 [.agg [.v (.int .i64 c.fx),.v (.int .i64 c.ad),.v (.int .i64 c.ins),.x 0 [],.x 1 [],.x 2 [],.x 3 []],.agg [.x 4 [],.x 5 [],.x 6 [],.x 7 []]],[.ext false (.s false 7 c.nodes.length (cN c.nodes)),.ext false (.s false 1 c.gates.length (cI c.gates)),.ext false (.s false 2 c.looks.length (cL c.looks)),.ext false (.s false 2 c.eqs.length (cK c.eqs)),.ext false (.s false 2 p.1.length (cRg p.1)),.ext false (.s false 2 p.2.length (cTa p.2)),.ext false (.s false 6 p.3.length (cLk p.3)),.ext false (.s false 1 p.4.length (cT p.4))]⟩ K R)=W (K [.at [0,1,0,1,1],.blk 0,.at [1,1,1]] (St.mk [(6,.v (qA 0)),(5,.v (qA (IntKind.wrap .i64 (IntKind.wrap .i64 ((↑p.1.length:Int)+(↑p.2.length:Int))+(↑p.3.length:Int))))),(2,.p 0 0),(3,.p 1 0)] [.cells [.v (qA c.1),.v (qA c.2),.v (qA c.3),.x 2 [],.x 3 [],.x 4 [],.x 5 []] 27,.cells [.x 6 [],.x 7 [],.x 8 [],.x 9 []] 33,.ext false (.s false 7 c.4.length (cN c.4)),.ext false (.s false 1 c.5.length (cI c.5)),.ext false (.s false 2 c.6.length (cL c.6)),.ext false (.s false 2 c.7.length (cK c.7)),.ext false (.s false 2 p.1.length (cRg p.1)),.ext false (.s false 2 p.2.length (cTa p.2)),.ext false (.s false 6 p.3.length (cLk p.3)),.ext false (.s false 1 p.4.length (cT p.4))])):=by kernel_rfl
theorem zWk(c:Cir)(p:Pln)(n:Int)(i M:Nat)(K:List It→St→Prop)(R:SV→List HO→Prop):W (xwp Try.prog X zDa [] 60 (qO Try.f11 [] [⟨[0,1,0,1,1],[6,5,2,3],[]⟩]) [] (.at [0,0,1,0,1,1]::.rnd [0,0,1,0,1,1] M::[.blk 0,.at [1,1,1]]) (St.mk [(6,.v (qA (i:Int))),(5,.v (qA n)),(2,.p 0 0),(3,.p 1 0)] [.cells [.v (qA c.1),.v (qA c.2),.v (qA c.3),.x 2 [],.x 3 [],.x 4 [],.x 5 []] 27,.cells [.x 6 [],.x 7 [],.x 8 [],.x 9 []] 33,.ext false (.s false 7 c.4.length (cN c.4)),.ext false (.s false 1 c.5.length (cI c.5)),.ext false (.s false 2 c.6.length (cL c.6)),.ext false (.s false 2 c.7.length (cK c.7)),.ext false (.s false 2 p.1.length (cRg p.1)),.ext false (.s false 2 p.2.length (cTa p.2)),.ext false (.s false 6 p.3.length (cLk p.3)),.ext false (.s false 1 p.4.length (cT p.4))]) K R)=W (bif decide ((↑i:Int)<(↑p.1.length:Int)) then(∀ M:Mem,(0:Int)≤(↑i:Int)∧(↑i:Int)<(↑p.1.length:Int))∧(∀ M:Mem,i<List.length p.1)∧(∀ M:Mem,i<List.length p.1)∧(∀ M:Mem,i<List.length p.1)∧K [.rnd [0,0,1,0,1,1] M,.blk 0,.at [1,1,1]] (St.mk [(6,.v (qA (IntKind.wrap .i64 ((↑i:Int)+(1:Int))))),(5,.v (qA (IntKind.wrap .i64 (n+(↑(List.length (gRg p.1 i).2):Int))))),(2,.p 0 0),(3,.p 1 0)] [.cells [.v (qA c.1),.v (qA c.2),.v (qA c.3),.x 2 [],.x 3 [],.x 4 [],.x 5 []] 27,.cells [.x 6 [],.x 7 [],.x 8 [],.x 9 []] 33,.ext false (.s false 7 c.4.length (cN c.4)),.ext false (.s false 1 c.5.length (cI c.5)),.ext false (.s false 2 c.6.length (cL c.6)),.ext false (.s false 2 c.7.length (cK c.7)),.ext false (.s false 2 p.1.length (cRg p.1)),.ext false (.s false 2 p.2.length (cTa p.2)),.ext false (.s false 6 p.3.length (cLk p.3)),.ext false (.s false 1 p.4.length (cT p.4))]) else bif decide ((400:Int)<n) then R (.v (.bool true)) [] else bif decide ((200:Int)<(↑c.4.length:Int)) then R (.v (.bool true)) [] else bif decide ((100:Int)<(↑c.5.length:Int)) then R (.v (.bool true)) [] else bif decide ((20:Int)<(↑c.6.length:Int)) then R (.v (.bool true)) [] else R (.v (.bool (decide ((100:Int)<(↑c.7.length:Int))))) []):=by kernel_rfl
theorem qTk(c:Cir)(p:Pln)(hp:p.ok)(Q:SV→List HO→Prop)(hq:∀ b,Q (.v (.bool b)) []):∀(d i:Nat) (n:Int),i+d=p.rg.length →
  FOk Try.prog Try.f11 Q (.rnd [0,0,1,0,1,1] (d+1)::[.blk 0,.at [1,1,1]]) (St.mk [(6,SV.v (qA (i:Int))),(5,SV.v (qA n)),(2,SV.p 0 0),(3,SV.p 1 0)] [HO.cells [SV.v (qA c.1),SV.v (qA c.2),SV.v (qA c.3),SV.x 2 [],SV.x 3 [],SV.x 4 [],SV.x 5 []] 27,HO.cells [SV.x 6 [],SV.x 7 [],SV.x 8 [],SV.x 9 []] 33,HO.ext false (qB.s false 7 (List.length c.4) (cN c.4)),HO.ext false (qB.s false 1 (List.length c.5) (cI c.5)),HO.ext false (qB.s false 2 (List.length c.6) (cL c.6)),HO.ext false (qB.s false 2 (List.length c.7) (cK c.7)),HO.ext false (qB.s false 2 (List.length p.1) (cRg p.1)),HO.ext false (qB.s false 2 (List.length p.2) (cTa p.2)),HO.ext false (qB.s false 6 (List.length p.3) (cLk p.3)),HO.ext false (qB.s false 1 (List.length p.4) (cT p.4))])
 | 0,i,n,hd=>by
  refine FOk.rnd (qE hm 60 ((zWk c p n i 0 _ _).mpr ⟨?_⟩))
  rw[qF,if_neg (by omega)]
  exact qK (fun _=>hq _) fun _=>qK (fun _=>hq _) fun _=>qK (fun _=>hq _) fun _=>qK (fun _=>hq _) fun _=>hq _
 | d+1,i,n,hd=>by
  have hi:i<p.rg.length:=by omega
  have hb:=hp.r.2
  refine FOk.rnd (qE hm 60 ((zWk c p n i (d+1) _ _).mpr ⟨?_⟩))
  rw[qF,if_pos (by omega),qN _ (by omega)]
  repeat' (refine And.intro (fun _=>by omega) ?_)
  exact qTk c p hp Q hq d (i+1) _ (by omega)
theorem zYh:Try.f11.body.isSome=true:=by kernel_rfl
theorem jBi(c:Cir):Nat.ble ([.agg [.v (.int .i64 c.fx),.v (.int .i64 c.ad),.v (.int .i64 c.ins),.x 0 [],.x 1 [],.x 2 [],.x 3 []],.agg [.x 4 [],.x 5 [],.x 6 [],.x 7 []]]:List SV).length Try.f11.ntmps=true:=by kernel_rfl
theorem zQc(c:Cir)(p:Pln)(hp:p.ok)(Q:SV→List HO→Prop)(hq:∀ b,Q (.v (.bool b)) []):qI Try.prog 11 [.agg [.v (.int .i64 c.fx),.v (.int .i64 c.ad),.v (.int .i64 c.ins),.x 0 [],.x 1 [],.x 2 [],.x 3 []],.agg [.x 4 [],.x 5 [],.x 6 [],.x 7 []]] [.ext false (.s false 7 c.nodes.length (cN c.nodes)),.ext false (.s false 1 c.gates.length (cI c.gates)),.ext false (.s false 2 c.looks.length (cL c.looks)),.ext false (.s false 2 c.eqs.length (cK c.eqs)),.ext false (.s false 2 p.1.length (cRg p.1)),.ext false (.s false 2 p.2.length (cTa p.2)),.ext false (.s false 6 p.3.length (cLk p.3)),.ext false (.s false 1 p.4.length (cT p.4))] Q:=by
 refine qJ Try.func11 zYh (jBi c) ?_
 refine qE hm 60 ((zZx c p _ _).mpr ⟨?_⟩)
 exact FOk.loop (p.rg.length+1) (by kernel_rfl) (qTk c p hp Q hq p.rg.length 0 _ (by omega))
noncomputable def zRo:List SV→List HO→Option ((SV→List HO→Prop)→Prop)
 | [.agg [.v (.int .i64 fx),.v (.int .i64 ad),.v (.int .i64 ins),.x 0 [],.x 1 [],.x 2 [],.x 3 []],.agg [.x 4 [],.x 5 [],.x 6 [],.x 7 []]],[.ext false (.s false 7 n0 c0),.ext false (.s false 1 n1 c1),.ext false (.s false 2 n2 c2),.ext false (.s false 2 n3 c3),.ext false (.s false 2 m0 d0),.ext false (.s false 2 m1 d1),.ext false (.s false 6 m2 d2),.ext false (.s false 1 m3 d3)] =>
  some fun Q=>lSh fx ad ins n0 n1 n2 n3 m0 m1 m2 m3 c0 c1 c2 c3 d0 d1 d2 d3 fun c p=>lBo fun b=>Q (.v (.bool b)) []
 | _,_=>none
theorem zIi(args:List SV)(h:List HO)(tr:(SV→List HO→Prop)→Prop)(Q:SV→List HO→Prop)(hc:zRo args h=some tr)(ht:tr Q):qI Try.prog 11 args h Q:=by
 unfold zRo at hc
 split at hc
 ·simp only[sI] at hc
  subst hc
  obtain⟨c,rfl,rfl,rfl,⟨rfl,e0⟩,⟨rfl,e1⟩,⟨rfl,e2⟩,⟨rfl,e3⟩,hk,ht2⟩:=ht.h.h
  obtain⟨p,⟨rfl,e4⟩,⟨rfl,e5⟩,⟨rfl,e6⟩,⟨rfl,e7⟩,hp,hq⟩:=ht2.h
  exact qI.ac (zQc c p hp Q hq.h) ⟨⟨rfl,rfl,rfl,rfl,e0⟩,⟨rfl,rfl,rfl,rfl,e1⟩,⟨rfl,rfl,rfl,rfl,e2⟩,⟨rfl,rfl,rfl,rfl,e3⟩,⟨rfl,rfl,rfl,rfl,e4⟩,⟨rfl,rfl,rfl,rfl,e5⟩,⟨rfl,rfl,rfl,rfl,e6⟩,⟨rfl,rfl,rfl,rfl,e7⟩,trivial⟩
 ·cases hc
noncomputable def zKd:Con Try.prog:=zYb.add 11 zRo zIi
end Go.Proofs.Ytlmjdcbhpffanaa
/- The statements' first line: plain. -/
namespace Go.Pl
open Go.Sx
def alC:Cir:=⟨0,2,0,[],[],[],[]⟩
def alP:Pln:=⟨[(2,[⟨3,0,0,7⟩]),(2,[⟨3,1,0,7⟩]),(2,[⟨3,0,0,7⟩,⟨3,1,0,0⟩])],[],[],[]⟩
theorem zRz:alC.ok where
 f:=by unfold i64; simp only[alC]; omega
 a:=by unfold i64; simp only[alC]; omega
 i:=by unfold i64; simp only[alC]; omega
 n:=by refine⟨?_,by decide⟩; intro x hx; cases hx
 g:=by refine⟨?_,by decide⟩; intro x hx; cases hx
 l:=by refine⟨?_,by decide⟩; intro x hx; cases hx
 e:=by refine⟨?_,by decide⟩; intro x hx; cases hx
theorem zNw:alP.ok where
 r:=by
  refine⟨?_,by decide⟩
  intro x hx
  simp only[alP,List.mem_cons,List.not_mem_nil,or_false] at hx
  rcases hx with rfl | rfl | rfl <;> refine⟨by unfold i64; omega,fun y hy=>?_,by decide⟩ <;> simp only[List.mem_cons,List.not_mem_nil,or_false] at hy
  ·subst hy; simp only[Pt.ok,i64,top]; omega
  ·subst hy; simp only[Pt.ok,i64,top]; omega
  ·rcases hy with rfl | rfl <;> simp only[Pt.ok,i64,top] <;> omega
 t:=by refine⟨?_,by decide⟩; intro x hx; cases hx
 l:=by refine⟨?_,by decide⟩; intro x hx; cases hx
 i:=by refine⟨?_,by decide⟩; intro x hx; cases hx
theorem zAn:qS alC 3 alP=((⟨[],[[7,0,7],[7,0,0]],[],[]⟩,[0,0,2]),0):=by kernel_rfl
end Go.Pl
namespace Go.Proofs.Ytlmjdcbhpffanaa
open Go.Sx Go.Pl
set_option linter.unusedVariables false
set_option maxRecDepth 100000
end Go.Proofs.Ytlmjdcbhpffanaa
/- The statements' first line. -/
namespace Go.Proofs.Ytlmjdcbhpffanaa
open Go.Sx Go.Pl
set_option linter.unusedVariables false
set_option maxRecDepth 100000
theorem zWi(K:List It→St→Prop)(R:SV→List HO→Prop):W (xwp Try.prog X zKd [(31,[])] 60 (qO Try.f10 [] []) [] [.at []] ⟨qQ 0 [],[]⟩ K R)=W ((∀ M:Mem,2≤2)∧((∀ M:Mem,2≤2)∧(∀ M:Mem,112≤140737488355328∧2≤140737488355328)∧(∀ M:Mem,2≤2)∧(∀ M:Mem,2≤2)∧((∀ M:Mem,2≤2)∧K [It.one [0,1,1,1] 8 (Array.mk [true,true,true,true,true,true,false,false,false,false,false,false,false,false,false]) 6,.at [1,1,1,1]] (St.mk [(18,.agg [.o 6,.v (Value.slice none 0 0),.v (Value.slice none 0 0),.v (Value.slice none 0 0)]),(17,.o 6),(15,.agg [.v (qA 2),.o 5]),(14,.agg [.v (qA 2),.o 4]),(16,.agg [.v (qA 2),.o 3]),(13,.agg [.v (qA 0),.v (qA 2),.v (qA 0),.v (Value.slice none 0 0),.v (Value.slice none 0 0),.v (Value.slice none 0 0),.v (Value.slice none 0 0)]),(11,.p 1 1),(10,.o 3),(9,.o 2),(8,.agg [.v (qA 3),.v (qA 1),.v (qA 0),.v (qD 0),.v (qD 0),.v (qD 0),.v (qD 0)]),(7,.o 0),(6,.p 1 1),(1,.p 1 0),(5,.agg [.v (qA 2),.o 0]),(0,.v (.bool false))] [.gone,.cells [.v (qA 2),.o 3] 43,HO.row 58 7 1 [.v (qA 3),.v (qA 1),.v (qA 0),.v (qD 0),.v (qD 0),.v (qD 0),.v (qD 0)],.rowc 58 7 2 (.app 1 (.lit 7 [.v (qA 3),.v (qA 0),.v (qA 0),.v (qD 7),.v (qD 0),.v (qD 0),.v (qD 0)]) (.lit 7 [.v (qA 3),.v (qA 1),.v (qA 0),.v (qD 0),.v (qD 0),.v (qD 0),.v (qD 0)])),.rowc 58 7 1 (.lit 7 [.v (qA 3),.v (qA 0),.v (qA 0),.v (qD 7),.v (qD 0),.v (qD 0),.v (qD 0)]),.rowc 58 7 1 (.lit 7 [.v (qA 3),.v (qA 1),.v (qA 0),.v (qD 7),.v (qD 0),.v (qD 0),.v (qD 0)]),HO.row 43 2 3 [.v (qA 2),.o 4,.v (qA 2),.o 5,.v (qA 2),.o 3]])∧K [It.one [0,1,1,1] 7 (Array.mk [true,true,true,true,true,true,false,false,false,false,false,true,false,false,false]) 6,.at [1,1,1,1]] (St.mk [(2,.p 7 0),(18,.agg [.o 6,.v (Value.slice none 0 0),.v (Value.slice none 0 0),.v (Value.slice none 0 0)]),(17,.o 6),(15,.agg [.v (qA 2),.o 5]),(14,.agg [.v (qA 2),.o 4]),(16,.agg [.v (qA 2),.o 3]),(13,.agg [.v (qA 0),.v (qA 2),.v (qA 0),.v (Value.slice none 0 0),.v (Value.slice none 0 0),.v (Value.slice none 0 0),.v (Value.slice none 0 0)]),(11,.p 1 1),(10,.o 3),(9,.o 2),(8,.agg [.v (qA 3),.v (qA 1),.v (qA 0),.v (qD 0),.v (qD 0),.v (qD 0),.v (qD 0)]),(7,.o 0),(6,.p 1 1),(1,.p 1 0),(5,.agg [.v (qA 2),.o 0]),(0,.v (.bool false))] [.gone,.cells [.v (qA 2),.o 3] 43,HO.row 58 7 1 [.v (qA 3),.v (qA 1),.v (qA 0),.v (qD 0),.v (qD 0),.v (qD 0),.v (qD 0)],.rowc 58 7 2 (.app 1 (.lit 7 [.v (qA 3),.v (qA 0),.v (qA 0),.v (qD 7),.v (qD 0),.v (qD 0),.v (qD 0)]) (.lit 7 [.v (qA 3),.v (qA 1),.v (qA 0),.v (qD 0),.v (qD 0),.v (qD 0),.v (qD 0)])),.rowc 58 7 1 (.lit 7 [.v (qA 3),.v (qA 0),.v (qA 0),.v (qD 7),.v (qD 0),.v (qD 0),.v (qD 0)]),.rowc 58 7 1 (.lit 7 [.v (qA 3),.v (qA 1),.v (qA 0),.v (qD 7),.v (qD 0),.v (qD 0),.v (qD 0)]),HO.row 43 2 3 [.v (qA 2),.o 4,.v (qA 2),.o 5,.v (qA 2),.o 3],.cells [.v (Value.slice none 0 0),.v (Value.slice none 0 0),.v (Value.slice none 0 0),.v (Value.slice none 0 0)] 49])∧K [It.one [0,1,1,1] 7 (Array.mk [true,true,true,true,true,true,false,false,false,false,false,true,false,false,false]) 6,.at [1,1,1,1]] (St.mk [(18,.agg [.o 7,.v (Value.slice none 0 0),.v (Value.slice none 0 0),.v (Value.slice none 0 0)]),(17,.o 7),(2,.p 6 0),(15,.agg [.v (qA 2),.o 5]),(14,.agg [.v (qA 2),.o 4]),(16,.agg [.v (qA 2),.o 3]),(13,.agg [.v (qA 0),.v (qA 2),.v (qA 0),.v (Value.slice none 0 0),.v (Value.slice none 0 0),.v (Value.slice none 0 0),.v (Value.slice none 0 0)]),(11,.p 1 1),(10,.o 3),(9,.o 2),(8,.agg [.v (qA 3),.v (qA 1),.v (qA 0),.v (qD 0),.v (qD 0),.v (qD 0),.v (qD 0)]),(7,.o 0),(6,.p 1 1),(1,.p 1 0),(5,.agg [.v (qA 2),.o 0]),(0,.v (.bool false))] [.gone,.cells [.v (qA 2),.o 3] 43,HO.row 58 7 1 [.v (qA 3),.v (qA 1),.v (qA 0),.v (qD 0),.v (qD 0),.v (qD 0),.v (qD 0)],.rowc 58 7 2 (.app 1 (.lit 7 [.v (qA 3),.v (qA 0),.v (qA 0),.v (qD 7),.v (qD 0),.v (qD 0),.v (qD 0)]) (.lit 7 [.v (qA 3),.v (qA 1),.v (qA 0),.v (qD 0),.v (qD 0),.v (qD 0),.v (qD 0)])),.rowc 58 7 1 (.lit 7 [.v (qA 3),.v (qA 0),.v (qA 0),.v (qD 7),.v (qD 0),.v (qD 0),.v (qD 0)]),.rowc 58 7 1 (.lit 7 [.v (qA 3),.v (qA 1),.v (qA 0),.v (qD 7),.v (qD 0),.v (qD 0),.v (qD 0)]),.cells [.v (Value.slice none 0 0),.v (Value.slice none 0 0),.v (Value.slice none 0 0),.v (Value.slice none 0 0)] 49,HO.row 43 2 3 [.v (qA 2),.o 4,.v (qA 2),.o 5,.v (qA 2),.o 3]]))∧(∀ M:Mem,2≤2)∧K [It.one [0,1,1,1] 7 (Array.mk [true,true,true,true,true,true,false,false,false,false,false,true,false,false,false]) 6,.at [1,1,1,1]] (St.mk [(18,.agg [.o 7,.v (Value.slice none 0 0),.v (Value.slice none 0 0),.v (Value.slice none 0 0)]),(17,.o 7),(15,.agg [.v (qA 2),.o 6]),(2,.p 5 0),(14,.agg [.v (qA 2),.o 4]),(16,.agg [.v (qA 2),.o 3]),(13,.agg [.v (qA 0),.v (qA 2),.v (qA 0),.v (Value.slice none 0 0),.v (Value.slice none 0 0),.v (Value.slice none 0 0),.v (Value.slice none 0 0)]),(11,.p 1 1),(10,.o 3),(9,.o 2),(8,.agg [.v (qA 3),.v (qA 1),.v (qA 0),.v (qD 0),.v (qD 0),.v (qD 0),.v (qD 0)]),(7,.o 0),(6,.p 1 1),(1,.p 1 0),(5,.agg [.v (qA 2),.o 0]),(0,.v (.bool false))] [.gone,.cells [.v (qA 2),.o 3] 43,HO.row 58 7 1 [.v (qA 3),.v (qA 1),.v (qA 0),.v (qD 0),.v (qD 0),.v (qD 0),.v (qD 0)],.rowc 58 7 2 (.app 1 (.lit 7 [.v (qA 3),.v (qA 0),.v (qA 0),.v (qD 7),.v (qD 0),.v (qD 0),.v (qD 0)]) (.lit 7 [.v (qA 3),.v (qA 1),.v (qA 0),.v (qD 0),.v (qD 0),.v (qD 0),.v (qD 0)])),.rowc 58 7 1 (.lit 7 [.v (qA 3),.v (qA 0),.v (qA 0),.v (qD 7),.v (qD 0),.v (qD 0),.v (qD 0)]),.cells [.v (Value.slice none 0 0),.v (Value.slice none 0 0),.v (Value.slice none 0 0),.v (Value.slice none 0 0)] 49,.rowc 58 7 1 (.lit 7 [.v (qA 3),.v (qA 1),.v (qA 0),.v (qD 7),.v (qD 0),.v (qD 0),.v (qD 0)]),HO.row 43 2 3 [.v (qA 2),.o 4,.v (qA 2),.o 6,.v (qA 2),.o 3]]))∧(∀ M:Mem,2≤2)∧(∀ M:Mem,112≤140737488355328∧2≤140737488355328)∧(∀ M:Mem,2≤2)∧(∀ M:Mem,2≤2)∧(∀ M:Mem,2≤2)∧K [It.one [0,1,1,1] 7 (Array.mk [true,true,true,true,true,true,false,false,false,false,false,true,false,false,false]) 6,.at [1,1,1,1]] (St.mk [(18,.agg [.o 7,.v (Value.slice none 0 0),.v (Value.slice none 0 0),.v (Value.slice none 0 0)]),(17,.o 7),(15,.agg [.v (qA 2),.o 6]),(14,.agg [.v (qA 2),.o 5]),(2,.p 4 0),(16,.agg [.v (qA 2),.o 3]),(13,.agg [.v (qA 0),.v (qA 2),.v (qA 0),.v (Value.slice none 0 0),.v (Value.slice none 0 0),.v (Value.slice none 0 0),.v (Value.slice none 0 0)]),(11,.p 1 1),(10,.o 3),(9,.o 2),(8,.agg [.v (qA 3),.v (qA 1),.v (qA 0),.v (qD 0),.v (qD 0),.v (qD 0),.v (qD 0)]),(7,.o 0),(6,.p 1 1),(1,.p 1 0),(5,.agg [.v (qA 2),.o 0]),(0,.v (.bool false))] [.gone,.cells [.v (qA 2),.o 3] 43,HO.row 58 7 1 [.v (qA 3),.v (qA 1),.v (qA 0),.v (qD 0),.v (qD 0),.v (qD 0),.v (qD 0)],.rowc 58 7 2 (.app 1 (.lit 7 [.v (qA 3),.v (qA 0),.v (qA 0),.v (qD 7),.v (qD 0),.v (qD 0),.v (qD 0)]) (.lit 7 [.v (qA 3),.v (qA 1),.v (qA 0),.v (qD 0),.v (qD 0),.v (qD 0),.v (qD 0)])),.cells [.v (Value.slice none 0 0),.v (Value.slice none 0 0),.v (Value.slice none 0 0),.v (Value.slice none 0 0)] 49,.rowc 58 7 1 (.lit 7 [.v (qA 3),.v (qA 0),.v (qA 0),.v (qD 7),.v (qD 0),.v (qD 0),.v (qD 0)]),.rowc 58 7 1 (.lit 7 [.v (qA 3),.v (qA 1),.v (qA 0),.v (qD 7),.v (qD 0),.v (qD 0),.v (qD 0)]),HO.row 43 2 3 [.v (qA 2),.o 5,.v (qA 2),.o 6,.v (qA 2),.o 3]])):=by kernel_rfl
theorem zVq(K:List It→St→Prop)(R:SV→List HO→Prop):W (xwp Try.prog X zKd [] 60 (qO Try.f10 [] []) [] [.one [0,1,1,1] 8 (Array.mk [true,true,true,true,true,true,false,false,false,false,false,false,false,false,false]) 6,.at [1,1,1,1]] (St.mk [(13,.agg [.v (qA 0),.v (qA 2),.v (qA 0),.v (Value.slice none 0 0),.v (Value.slice none 0 0),.v (Value.slice none 0 0),.v (Value.slice none 0 0)]),(18,.agg [.x 0 [],.v (Value.slice none 0 0),.v (Value.slice none 0 0),.v (Value.slice none 0 0)])] [.ext false (.s false 2 3 (cRg alP.1))]) K R)=W (lLy (0:Int) (2:Int) (0:Int) (3:Int) 0 0 0 0 3 0 0 0 (cN []) (cI []) (cL []) (cK []) (cRg [((2:Int),[Pt.mk (3:Int) (0:Int) (0:Int) 7]),((2:Int),[Pt.mk (3:Int) (1:Int) (0:Int) 7]),((2:Int),[Pt.mk (3:Int) (0:Int) (0:Int) 7,Pt.mk (3:Int) (1:Int) (0:Int) 0])]) (cTa []) (cLk []) (cT []) (fun(e:Int)=>(∀ M:Mem,4≤4)∧bif e==(0:Int) then K [It.ops [0,1,1,1,1] 5,.at [1,1,1,1,1]] (St.mk [(27,.o 2),(26,.v (Value.slice none 0 0)),(25,.bl true),(24,.v (.bool (e==(0:Int)))),(23,.v (qA e)),(4,.v (qA e)),(3,.v (Value.slice none 0 0)),(2,.p 1 0),(22,.v (qA e)),(21,.v (Value.slice none 0 0)),(20,.agg [.v (Value.slice none 0 0),.v (Value.slice none 0 0),.v (Value.slice none 0 0),.v (Value.slice none 0 0)]),(12,.tup [.agg [.v (Value.slice none 0 0),.v (Value.slice none 0 0),.v (Value.slice none 0 0),.v (Value.slice none 0 0)],.v (Value.slice none 0 0),.v (qA e)]),(19,.tup [.agg [.v (Value.slice none 0 0),.v (Value.slice none 0 0),.v (Value.slice none 0 0),.v (Value.slice none 0 0)],.v (Value.slice none 0 0),.v (qA e)]),(13,.agg [.v (qA 0),.v (qA 2),.v (qA 0),.v (Value.slice none 0 0),.v (Value.slice none 0 0),.v (Value.slice none 0 0),.v (Value.slice none 0 0)]),(18,.agg [.x 0 [],.v (Value.slice none 0 0),.v (Value.slice none 0 0),.v (Value.slice none 0 0)])] [.ext false (.s false 2 3 (cRg [((2:Int),[Pt.mk (3:Int) (0:Int) (0:Int) 7]),((2:Int),[Pt.mk (3:Int) (1:Int) (0:Int) 7]),((2:Int),[Pt.mk (3:Int) (0:Int) (0:Int) 7,Pt.mk (3:Int) (1:Int) (0:Int) 0])])),.cells [.v (Value.slice none 0 0),.v (Value.slice none 0 0),.v (Value.slice none 0 0),.v (Value.slice none 0 0)] 49,HO.row 3 1 3 [.v (qA 0),.v (qA 0),.v (qA 2)]]) else R (.v (.bool false)) []) fun(s:Sht) (ss:List Int)=>(∀ M:Mem,4≤4)∧lI2 ss.length 3 (cI ss) (lc 1 [.v (qA 0),.v (qA 0),.v (qA 2)]) fun(l l2:List Int)=>bif decide (l=l2) then bif(↑s.2.length:Int)==(2:Int) then(∀ M:Mem,(0:Int)≤(0:Int)∧(0:Int)<(↑s.2.length:Int))∧(∀ M:Mem,0<List.length s.2)∧(∀ M:Mem,0<List.length s.2)∧bif(↑(List.length (gT s.2 0)):Int)==(3:Int) then(∀ M:Mem,(0:Int)≤(0:Int)∧(0:Int)<(↑s.2.length:Int))∧(∀ M:Mem,0<List.length s.2)∧(∀ M:Mem,0<List.length s.2)∧(∀ M:Mem,(0:Int)≤(2:Int)∧(2:Int)<(↑(List.length (gT s.2 0)):Int))∧(∀ M:Mem,0<List.length s.2)∧(∀ M:Mem,2<List.length (gT s.2 0))∧R (.v (.bool (decide ((eI (gE (gT s.2 0) 2))=[(7:Int),(0:Int),(0:Int),(0:Int)])))) [] else R (.v (.bool false)) [] else R (.v (.bool false)) [] else R (.v (.bool false)) []):=by kernel_rfl
theorem zTe(K:List It→St→Prop)(R:SV→List HO→Prop):W (xwp Try.prog X zKd [] 60 (qO Try.f10 [] []) [] [.one [0,1,1,1] 7 (Array.mk [true,true,true,true,true,true,false,false,false,false,false,true,false,false,false]) 6,.at [1,1,1,1]] (St.mk [(13,.agg [.v (qA 0),.v (qA 2),.v (qA 0),.v (Value.slice none 0 0),.v (Value.slice none 0 0),.v (Value.slice none 0 0),.v (Value.slice none 0 0)]),(18,.agg [.x 0 [],.v (Value.slice none 0 0),.v (Value.slice none 0 0),.v (Value.slice none 0 0)]),(2,.p 1 0)] [.ext false (.s false 2 3 (cRg alP.1)),.cells [.v (Value.slice none 0 0),.v (Value.slice none 0 0),.v (Value.slice none 0 0),.v (Value.slice none 0 0)] 49]) K R)=W (lLy (0:Int) (2:Int) (0:Int) (3:Int) 0 0 0 0 3 0 0 0 (cN []) (cI []) (cL []) (cK []) (cRg [((2:Int),[Pt.mk (3:Int) (0:Int) (0:Int) 7]),((2:Int),[Pt.mk (3:Int) (1:Int) (0:Int) 7]),((2:Int),[Pt.mk (3:Int) (0:Int) (0:Int) 7,Pt.mk (3:Int) (1:Int) (0:Int) 0])]) (cTa []) (cLk []) (cT []) (fun(e:Int)=>(∀ M:Mem,4≤4)∧bif e==(0:Int) then K [It.ops [0,1,1,1,1] 5,.at [1,1,1,1,1]] (St.mk [(27,.o 2),(26,.v (Value.slice none 0 0)),(25,.bl true),(24,.v (.bool (e==(0:Int)))),(23,.v (qA e)),(4,.v (qA e)),(3,.v (Value.slice none 0 0)),(22,.v (qA e)),(21,.v (Value.slice none 0 0)),(20,.agg [.v (Value.slice none 0 0),.v (Value.slice none 0 0),.v (Value.slice none 0 0),.v (Value.slice none 0 0)]),(12,.tup [.agg [.v (Value.slice none 0 0),.v (Value.slice none 0 0),.v (Value.slice none 0 0),.v (Value.slice none 0 0)],.v (Value.slice none 0 0),.v (qA e)]),(19,.tup [.agg [.v (Value.slice none 0 0),.v (Value.slice none 0 0),.v (Value.slice none 0 0),.v (Value.slice none 0 0)],.v (Value.slice none 0 0),.v (qA e)]),(13,.agg [.v (qA 0),.v (qA 2),.v (qA 0),.v (Value.slice none 0 0),.v (Value.slice none 0 0),.v (Value.slice none 0 0),.v (Value.slice none 0 0)]),(18,.agg [.x 0 [],.v (Value.slice none 0 0),.v (Value.slice none 0 0),.v (Value.slice none 0 0)]),(2,.p 1 0)] [.ext false (.s false 2 3 (cRg [((2:Int),[Pt.mk (3:Int) (0:Int) (0:Int) 7]),((2:Int),[Pt.mk (3:Int) (1:Int) (0:Int) 7]),((2:Int),[Pt.mk (3:Int) (0:Int) (0:Int) 7,Pt.mk (3:Int) (1:Int) (0:Int) 0])])),.cells [.v (Value.slice none 0 0),.v (Value.slice none 0 0),.v (Value.slice none 0 0),.v (Value.slice none 0 0)] 49,HO.row 3 1 3 [.v (qA 0),.v (qA 0),.v (qA 2)]]) else R (.v (.bool false)) []) fun(s:Sht) (ss:List Int)=>(∀ M:Mem,4≤4)∧lI2 ss.length 3 (cI ss) (lc 1 [.v (qA 0),.v (qA 0),.v (qA 2)]) fun(l l2:List Int)=>bif decide (l=l2) then bif(↑s.2.length:Int)==(2:Int) then(∀ M:Mem,(0:Int)≤(0:Int)∧(0:Int)<(↑s.2.length:Int))∧(∀ M:Mem,0<List.length s.2)∧(∀ M:Mem,0<List.length s.2)∧bif(↑(List.length (gT s.2 0)):Int)==(3:Int) then(∀ M:Mem,(0:Int)≤(0:Int)∧(0:Int)<(↑s.2.length:Int))∧(∀ M:Mem,0<List.length s.2)∧(∀ M:Mem,0<List.length s.2)∧(∀ M:Mem,(0:Int)≤(2:Int)∧(2:Int)<(↑(List.length (gT s.2 0)):Int))∧(∀ M:Mem,0<List.length s.2)∧(∀ M:Mem,2<List.length (gT s.2 0))∧R (.v (.bool (decide ((eI (gE (gT s.2 0) 2))=[(7:Int),(0:Int),(0:Int),(0:Int)])))) [] else R (.v (.bool false)) [] else R (.v (.bool false)) [] else R (.v (.bool false)) []):=by kernel_rfl
theorem zGv:IsC 1 7 (Ct.lit 7 [qB.v (qA (3:Int)),qB.v (qA (0:Int)),qB.v (qA (0:Int)),qB.v (qD (7:Int)),qB.v (qD (0:Int)),qB.v (qD (0:Int)),qB.v (qD (0:Int))]).at (Ct.fn (cPt [⟨3,0,0,7⟩])).at:=by
 obtain⟨a7_0,a7_1,a7_2,a7_3⟩:=qDu 7 (by omega)
 intro k hk j hj
 match k,hk,j,hj with
 | 0,_,0,_=>show Ct.at (Ct.lit 7 [qB.v (qA (3:Int)),qB.v (qA (0:Int)),qB.v (qA (0:Int)),qB.v (qD (7:Int)),qB.v (qD (0:Int)),qB.v (qD (0:Int)),qB.v (qD (0:Int))]) 0 0=Ct.at (Ct.fn (cPt [⟨3,0,0,7⟩])) 0 0; kernel_rfl
 | 0,_,1,_=>show Ct.at (Ct.lit 7 [qB.v (qA (3:Int)),qB.v (qA (0:Int)),qB.v (qA (0:Int)),qB.v (qD (7:Int)),qB.v (qD (0:Int)),qB.v (qD (0:Int)),qB.v (qD (0:Int))]) 0 1=Ct.at (Ct.fn (cPt [⟨3,0,0,7⟩])) 0 1; kernel_rfl
 | 0,_,2,_=>show Ct.at (Ct.lit 7 [qB.v (qA (3:Int)),qB.v (qA (0:Int)),qB.v (qA (0:Int)),qB.v (qD (7:Int)),qB.v (qD (0:Int)),qB.v (qD (0:Int)),qB.v (qD (0:Int))]) 0 2=Ct.at (Ct.fn (cPt [⟨3,0,0,7⟩])) 0 2; kernel_rfl
 | 0,_,3,_=>show qB.v (qD (7:Int))=qB.v (.int .u64 ((qC 7 0:Nat):Int)); rw[a7_0]; rfl
 | 0,_,4,_=>show qB.v (qD (0:Int))=qB.v (.int .u64 ((qC 7 1:Nat):Int)); rw[a7_1]; rfl
 | 0,_,5,_=>show qB.v (qD (0:Int))=qB.v (.int .u64 ((qC 7 2:Nat):Int)); rw[a7_2]; rfl
 | 0,_,6,_=>show qB.v (qD (0:Int))=qB.v (.int .u64 ((qC 7 3:Nat):Int)); rw[a7_3]; rfl
theorem zGx:IsC 1 7 (Ct.lit 7 [qB.v (qA (3:Int)),qB.v (qA (1:Int)),qB.v (qA (0:Int)),qB.v (qD (7:Int)),qB.v (qD (0:Int)),qB.v (qD (0:Int)),qB.v (qD (0:Int))]).at (Ct.fn (cPt [⟨3,1,0,7⟩])).at:=by
 obtain⟨a7_0,a7_1,a7_2,a7_3⟩:=qDu 7 (by omega)
 intro k hk j hj
 match k,hk,j,hj with
 | 0,_,0,_=>show Ct.at (Ct.lit 7 [qB.v (qA (3:Int)),qB.v (qA (1:Int)),qB.v (qA (0:Int)),qB.v (qD (7:Int)),qB.v (qD (0:Int)),qB.v (qD (0:Int)),qB.v (qD (0:Int))]) 0 0=Ct.at (Ct.fn (cPt [⟨3,1,0,7⟩])) 0 0; kernel_rfl
 | 0,_,1,_=>show Ct.at (Ct.lit 7 [qB.v (qA (3:Int)),qB.v (qA (1:Int)),qB.v (qA (0:Int)),qB.v (qD (7:Int)),qB.v (qD (0:Int)),qB.v (qD (0:Int)),qB.v (qD (0:Int))]) 0 1=Ct.at (Ct.fn (cPt [⟨3,1,0,7⟩])) 0 1; kernel_rfl
 | 0,_,2,_=>show Ct.at (Ct.lit 7 [qB.v (qA (3:Int)),qB.v (qA (1:Int)),qB.v (qA (0:Int)),qB.v (qD (7:Int)),qB.v (qD (0:Int)),qB.v (qD (0:Int)),qB.v (qD (0:Int))]) 0 2=Ct.at (Ct.fn (cPt [⟨3,1,0,7⟩])) 0 2; kernel_rfl
 | 0,_,3,_=>show qB.v (qD (7:Int))=qB.v (.int .u64 ((qC 7 0:Nat):Int)); rw[a7_0]; rfl
 | 0,_,4,_=>show qB.v (qD (0:Int))=qB.v (.int .u64 ((qC 7 1:Nat):Int)); rw[a7_1]; rfl
 | 0,_,5,_=>show qB.v (qD (0:Int))=qB.v (.int .u64 ((qC 7 2:Nat):Int)); rw[a7_2]; rfl
 | 0,_,6,_=>show qB.v (qD (0:Int))=qB.v (.int .u64 ((qC 7 3:Nat):Int)); rw[a7_3]; rfl
theorem zDc:IsC 2 7 (Ct.app 1 (Ct.lit 7 [qB.v (qA (3:Int)),qB.v (qA (0:Int)),qB.v (qA (0:Int)),qB.v (qD (7:Int)),qB.v (qD (0:Int)),qB.v (qD (0:Int)),qB.v (qD (0:Int))]) (Ct.lit 7 [qB.v (qA (3:Int)),qB.v (qA (1:Int)),qB.v (qA (0:Int)),qB.v (qD (0:Int)),qB.v (qD (0:Int)),qB.v (qD (0:Int)),qB.v (qD (0:Int))])).at (Ct.fn (cPt [⟨3,0,0,7⟩,⟨3,1,0,0⟩])).at:=by
 obtain⟨a0_0,a0_1,a0_2,a0_3⟩:=qDu 0 (by omega)
 obtain⟨a7_0,a7_1,a7_2,a7_3⟩:=qDu 7 (by omega)
 intro k hk j hj
 match k,hk,j,hj with
 | 0,_,0,_=>show Ct.at (Ct.app 1 (Ct.lit 7 [qB.v (qA (3:Int)),qB.v (qA (0:Int)),qB.v (qA (0:Int)),qB.v (qD (7:Int)),qB.v (qD (0:Int)),qB.v (qD (0:Int)),qB.v (qD (0:Int))]) (Ct.lit 7 [qB.v (qA (3:Int)),qB.v (qA (1:Int)),qB.v (qA (0:Int)),qB.v (qD (0:Int)),qB.v (qD (0:Int)),qB.v (qD (0:Int)),qB.v (qD (0:Int))])) 0 0=Ct.at (Ct.fn (cPt [⟨3,0,0,7⟩,⟨3,1,0,0⟩])) 0 0; kernel_rfl
 | 0,_,1,_=>show Ct.at (Ct.app 1 (Ct.lit 7 [qB.v (qA (3:Int)),qB.v (qA (0:Int)),qB.v (qA (0:Int)),qB.v (qD (7:Int)),qB.v (qD (0:Int)),qB.v (qD (0:Int)),qB.v (qD (0:Int))]) (Ct.lit 7 [qB.v (qA (3:Int)),qB.v (qA (1:Int)),qB.v (qA (0:Int)),qB.v (qD (0:Int)),qB.v (qD (0:Int)),qB.v (qD (0:Int)),qB.v (qD (0:Int))])) 0 1=Ct.at (Ct.fn (cPt [⟨3,0,0,7⟩,⟨3,1,0,0⟩])) 0 1; kernel_rfl
 | 0,_,2,_=>show Ct.at (Ct.app 1 (Ct.lit 7 [qB.v (qA (3:Int)),qB.v (qA (0:Int)),qB.v (qA (0:Int)),qB.v (qD (7:Int)),qB.v (qD (0:Int)),qB.v (qD (0:Int)),qB.v (qD (0:Int))]) (Ct.lit 7 [qB.v (qA (3:Int)),qB.v (qA (1:Int)),qB.v (qA (0:Int)),qB.v (qD (0:Int)),qB.v (qD (0:Int)),qB.v (qD (0:Int)),qB.v (qD (0:Int))])) 0 2=Ct.at (Ct.fn (cPt [⟨3,0,0,7⟩,⟨3,1,0,0⟩])) 0 2; kernel_rfl
 | 0,_,3,_=>show qB.v (qD (7:Int))=qB.v (.int .u64 ((qC 7 0:Nat):Int)); rw[a7_0]; rfl
 | 0,_,4,_=>show qB.v (qD (0:Int))=qB.v (.int .u64 ((qC 7 1:Nat):Int)); rw[a7_1]; rfl
 | 0,_,5,_=>show qB.v (qD (0:Int))=qB.v (.int .u64 ((qC 7 2:Nat):Int)); rw[a7_2]; rfl
 | 0,_,6,_=>show qB.v (qD (0:Int))=qB.v (.int .u64 ((qC 7 3:Nat):Int)); rw[a7_3]; rfl
 | 1,_,0,_=>show Ct.at (Ct.app 1 (Ct.lit 7 [qB.v (qA (3:Int)),qB.v (qA (0:Int)),qB.v (qA (0:Int)),qB.v (qD (7:Int)),qB.v (qD (0:Int)),qB.v (qD (0:Int)),qB.v (qD (0:Int))]) (Ct.lit 7 [qB.v (qA (3:Int)),qB.v (qA (1:Int)),qB.v (qA (0:Int)),qB.v (qD (0:Int)),qB.v (qD (0:Int)),qB.v (qD (0:Int)),qB.v (qD (0:Int))])) 1 0=Ct.at (Ct.fn (cPt [⟨3,0,0,7⟩,⟨3,1,0,0⟩])) 1 0; kernel_rfl
 | 1,_,1,_=>show Ct.at (Ct.app 1 (Ct.lit 7 [qB.v (qA (3:Int)),qB.v (qA (0:Int)),qB.v (qA (0:Int)),qB.v (qD (7:Int)),qB.v (qD (0:Int)),qB.v (qD (0:Int)),qB.v (qD (0:Int))]) (Ct.lit 7 [qB.v (qA (3:Int)),qB.v (qA (1:Int)),qB.v (qA (0:Int)),qB.v (qD (0:Int)),qB.v (qD (0:Int)),qB.v (qD (0:Int)),qB.v (qD (0:Int))])) 1 1=Ct.at (Ct.fn (cPt [⟨3,0,0,7⟩,⟨3,1,0,0⟩])) 1 1; kernel_rfl
 | 1,_,2,_=>show Ct.at (Ct.app 1 (Ct.lit 7 [qB.v (qA (3:Int)),qB.v (qA (0:Int)),qB.v (qA (0:Int)),qB.v (qD (7:Int)),qB.v (qD (0:Int)),qB.v (qD (0:Int)),qB.v (qD (0:Int))]) (Ct.lit 7 [qB.v (qA (3:Int)),qB.v (qA (1:Int)),qB.v (qA (0:Int)),qB.v (qD (0:Int)),qB.v (qD (0:Int)),qB.v (qD (0:Int)),qB.v (qD (0:Int))])) 1 2=Ct.at (Ct.fn (cPt [⟨3,0,0,7⟩,⟨3,1,0,0⟩])) 1 2; kernel_rfl
 | 1,_,3,_=>show qB.v (qD (0:Int))=qB.v (.int .u64 ((qC 0 0:Nat):Int)); rw[a0_0]; rfl
 | 1,_,4,_=>show qB.v (qD (0:Int))=qB.v (.int .u64 ((qC 0 1:Nat):Int)); rw[a0_1]; rfl
 | 1,_,5,_=>show qB.v (qD (0:Int))=qB.v (.int .u64 ((qC 0 2:Nat):Int)); rw[a0_2]; rfl
 | 1,_,6,_=>show qB.v (qD (0:Int))=qB.v (.int .u64 ((qC 0 3:Nat):Int)); rw[a0_3]; rfl
theorem zKl:IsC 3 2 (Ct.lit 2 [qB.v (qA (2:Int)),qB.s false 7 1 (cPt [Pt.mk (3:Int) (0:Int) (0:Int) 7]),qB.v (qA (2:Int)),qB.s false 7 1 (cPt [Pt.mk (3:Int) (1:Int) (0:Int) 7]),qB.v (qA (2:Int)),qB.s false 7 2 (cPt [Pt.mk (3:Int) (0:Int) (0:Int) 7,Pt.mk (3:Int) (1:Int) (0:Int) 0])]).at (Ct.fn (cRg alP.rg)).at:=by
 intro k hk j hj
 match k,hk,j,hj with
 | 0,_,0,_=>show Ct.at (Ct.lit 2 [qB.v (qA (2:Int)),qB.s false 7 1 (cPt [Pt.mk (3:Int) (0:Int) (0:Int) 7]),qB.v (qA (2:Int)),qB.s false 7 1 (cPt [Pt.mk (3:Int) (1:Int) (0:Int) 7]),qB.v (qA (2:Int)),qB.s false 7 2 (cPt [Pt.mk (3:Int) (0:Int) (0:Int) 7,Pt.mk (3:Int) (1:Int) (0:Int) 0])]) 0 0=Ct.at (Ct.fn (cRg alP.rg)) 0 0; kernel_rfl
 | 0,_,1,_=>show Ct.at (Ct.lit 2 [qB.v (qA (2:Int)),qB.s false 7 1 (cPt [Pt.mk (3:Int) (0:Int) (0:Int) 7]),qB.v (qA (2:Int)),qB.s false 7 1 (cPt [Pt.mk (3:Int) (1:Int) (0:Int) 7]),qB.v (qA (2:Int)),qB.s false 7 2 (cPt [Pt.mk (3:Int) (0:Int) (0:Int) 7,Pt.mk (3:Int) (1:Int) (0:Int) 0])]) 0 1=Ct.at (Ct.fn (cRg alP.rg)) 0 1; kernel_rfl
 | 1,_,0,_=>show Ct.at (Ct.lit 2 [qB.v (qA (2:Int)),qB.s false 7 1 (cPt [Pt.mk (3:Int) (0:Int) (0:Int) 7]),qB.v (qA (2:Int)),qB.s false 7 1 (cPt [Pt.mk (3:Int) (1:Int) (0:Int) 7]),qB.v (qA (2:Int)),qB.s false 7 2 (cPt [Pt.mk (3:Int) (0:Int) (0:Int) 7,Pt.mk (3:Int) (1:Int) (0:Int) 0])]) 1 0=Ct.at (Ct.fn (cRg alP.rg)) 1 0; kernel_rfl
 | 1,_,1,_=>show Ct.at (Ct.lit 2 [qB.v (qA (2:Int)),qB.s false 7 1 (cPt [Pt.mk (3:Int) (0:Int) (0:Int) 7]),qB.v (qA (2:Int)),qB.s false 7 1 (cPt [Pt.mk (3:Int) (1:Int) (0:Int) 7]),qB.v (qA (2:Int)),qB.s false 7 2 (cPt [Pt.mk (3:Int) (0:Int) (0:Int) 7,Pt.mk (3:Int) (1:Int) (0:Int) 0])]) 1 1=Ct.at (Ct.fn (cRg alP.rg)) 1 1; kernel_rfl
 | 2,_,0,_=>show Ct.at (Ct.lit 2 [qB.v (qA (2:Int)),qB.s false 7 1 (cPt [Pt.mk (3:Int) (0:Int) (0:Int) 7]),qB.v (qA (2:Int)),qB.s false 7 1 (cPt [Pt.mk (3:Int) (1:Int) (0:Int) 7]),qB.v (qA (2:Int)),qB.s false 7 2 (cPt [Pt.mk (3:Int) (0:Int) (0:Int) 7,Pt.mk (3:Int) (1:Int) (0:Int) 0])]) 2 0=Ct.at (Ct.fn (cRg alP.rg)) 2 0; kernel_rfl
 | 2,_,1,_=>show Ct.at (Ct.lit 2 [qB.v (qA (2:Int)),qB.s false 7 1 (cPt [Pt.mk (3:Int) (0:Int) (0:Int) 7]),qB.v (qA (2:Int)),qB.s false 7 1 (cPt [Pt.mk (3:Int) (1:Int) (0:Int) 7]),qB.v (qA (2:Int)),qB.s false 7 2 (cPt [Pt.mk (3:Int) (0:Int) (0:Int) 7,Pt.mk (3:Int) (1:Int) (0:Int) 0])]) 2 1=Ct.at (Ct.fn (cRg alP.rg)) 2 1; kernel_rfl
theorem zLc:eI 7=[(7:Int),(0:Int),(0:Int),(0:Int)]:=by
 obtain⟨a0,a1,a2,a3⟩:=qDu 7 (by omega)
 rw[eI,a0,a1,a2,a3]; rfl
theorem zKh:IsC 3 1 (lc 1 [qB.v (qA (0:Int)),qB.v (qA (0:Int)),qB.v (qA (2:Int))]) (cI [0,0,2]):=by
 intro k hk j hj
 match k,hk,j,hj with
 | 0,_,0,_=>show(lc 1 [qB.v (qA (0:Int)),qB.v (qA (0:Int)),qB.v (qA (2:Int))]) 0 0=cI [0,0,2] 0 0; kernel_rfl
 | 1,_,0,_=>show(lc 1 [qB.v (qA (0:Int)),qB.v (qA (0:Int)),qB.v (qA (2:Int))]) 1 0=cI [0,0,2] 1 0; kernel_rfl
 | 2,_,0,_=>show(lc 1 [qB.v (qA (0:Int)),qB.v (qA (0:Int)),qB.v (qA (2:Int))]) 2 0=cI [0,0,2] 2 0; kernel_rfl
theorem qTl{kE:Int→Prop}{kS:Sht→List Int→Prop}(h:kS ⟨[],[[7,0,7],[7,0,0]],[],[]⟩ [0,0,2]):lLy (0:Int) (2:Int) (0:Int) (3:Int) 0 0 0 0 3 0 0 0 (cN []) (cI []) (cL []) (cK []) (cRg [((2:Int),[Pt.mk (3:Int) (0:Int) (0:Int) 7]),((2:Int),[Pt.mk (3:Int) (1:Int) (0:Int) 7]),((2:Int),[Pt.mk (3:Int) (0:Int) (0:Int) 7,Pt.mk (3:Int) (1:Int) (0:Int) 0])]) (cTa []) (cLk []) (cT []) kE kS:=by
 have:=wP alC zRz alP zNw (k:=fun c p=>((qS c 3 p).2≠0→kE (qS c 3 p).2)∧((qS c 3 p).2=0→kS (qS c 3 p).1.1 (qS c 3 p).1.2)) ⟨fun hh=>absurd (by rw[zAn]) hh,fun _=>by rw[zAn]; exact h⟩
 exact⟨this⟩
theorem zNc(Q:SV→List HO→Prop)(hq:Q (.v (.bool true)) []):FOk Try.prog Try.f10 Q [.one [0,1,1,1] 8 (Array.mk [true,true,true,true,true,true,false,false,false,false,false,false,false,false,false]) 6,.at [1,1,1,1]] (St.mk [(13,SV.agg [SV.v (qA (0:Int)),SV.v (qA (2:Int)),SV.v (qA (0:Int)),SV.v (Value.slice none 0 0),SV.v (Value.slice none 0 0),SV.v (Value.slice none 0 0),SV.v (Value.slice none 0 0)]),(18,SV.agg [SV.o 0,SV.v (Value.slice none 0 0),SV.v (Value.slice none 0 0),SV.v (Value.slice none 0 0)])] [HO.row 43 2 3 [SV.v (qA (2:Int)),SV.o 1,SV.v (qA (2:Int)),SV.o 2,SV.v (qA (2:Int)),SV.o 3],HO.rowc 58 7 1 (Ct.lit 7 [qB.v (qA (3:Int)),qB.v (qA (0:Int)),qB.v (qA (0:Int)),qB.v (qD (7:Int)),qB.v (qD (0:Int)),qB.v (qD (0:Int)),qB.v (qD (0:Int))]),HO.rowc 58 7 1 (Ct.lit 7 [qB.v (qA (3:Int)),qB.v (qA (1:Int)),qB.v (qA (0:Int)),qB.v (qD (7:Int)),qB.v (qD (0:Int)),qB.v (qD (0:Int)),qB.v (qD (0:Int))]),HO.rowc 58 7 2 (Ct.app 1 (Ct.lit 7 [qB.v (qA (3:Int)),qB.v (qA (0:Int)),qB.v (qA (0:Int)),qB.v (qD (7:Int)),qB.v (qD (0:Int)),qB.v (qD (0:Int)),qB.v (qD (0:Int))]) (Ct.lit 7 [qB.v (qA (3:Int)),qB.v (qA (1:Int)),qB.v (qA (0:Int)),qB.v (qD (0:Int)),qB.v (qD (0:Int)),qB.v (qD (0:Int)),qB.v (qD (0:Int))]))]):=by
 refine FOk.cv (h':=(St.heap (St.mk [(13,SV.agg [SV.v (qA (0:Int)),SV.v (qA (2:Int)),SV.v (qA (0:Int)),SV.v (Value.slice none 0 0),SV.v (Value.slice none 0 0),SV.v (Value.slice none 0 0),SV.v (Value.slice none 0 0)]),(18,SV.agg [SV.o 0,SV.v (Value.slice none 0 0),SV.v (Value.slice none 0 0),SV.v (Value.slice none 0 0)])] [HO.row 43 2 3 [SV.v (qA (2:Int)),SV.o 1,SV.v (qA (2:Int)),SV.o 2,SV.v (qA (2:Int)),SV.o 3],HO.rowc 58 7 1 (Ct.fn (cPt [⟨3,0,0,7⟩])),HO.rowc 58 7 1 (Ct.fn (cPt [⟨3,1,0,7⟩])),HO.rowc 58 7 2 (Ct.fn (cPt [⟨3,0,0,7⟩,⟨3,1,0,0⟩]))]))) ?_ ⟨HE.refl _,⟨rfl,rfl,rfl,zGv⟩,⟨rfl,rfl,rfl,zGx⟩,⟨rfl,rfl,rfl,zDc⟩,trivial⟩
 refine FOk.frzH 3 rfl (FOk.frzH 2 rfl (FOk.frzH 1 rfl ?_))
 refine FOk.norm (ks:=[13,18]) (nl:=[]) (st':=(St.mk [(13,SV.agg [SV.v (qA (0:Int)),SV.v (qA (2:Int)),SV.v (qA (0:Int)),SV.v (Value.slice none 0 0),SV.v (Value.slice none 0 0),SV.v (Value.slice none 0 0),SV.v (Value.slice none 0 0)]),(18,SV.agg [SV.o 0,SV.v (Value.slice none 0 0),SV.v (Value.slice none 0 0),SV.v (Value.slice none 0 0)])] [HO.rowc 43 2 3 (Ct.lit 2 [qB.v (qA (2:Int)),qB.s false 7 1 (cPt [Pt.mk (3:Int) (0:Int) (0:Int) 7]),qB.v (qA (2:Int)),qB.s false 7 1 (cPt [Pt.mk (3:Int) (1:Int) (0:Int) 7]),qB.v (qA (2:Int)),qB.s false 7 2 (cPt [Pt.mk (3:Int) (0:Int) (0:Int) 7,Pt.mk (3:Int) (1:Int) (0:Int) 0])])])) (by kernel_rfl) ?_
 refine FOk.cv (h':=(St.heap (St.mk [(13,SV.agg [SV.v (qA (0:Int)),SV.v (qA (2:Int)),SV.v (qA (0:Int)),SV.v (Value.slice none 0 0),SV.v (Value.slice none 0 0),SV.v (Value.slice none 0 0),SV.v (Value.slice none 0 0)]),(18,SV.agg [SV.o 0,SV.v (Value.slice none 0 0),SV.v (Value.slice none 0 0),SV.v (Value.slice none 0 0)])] [HO.rowc 43 2 3 (Ct.fn (cRg alP.1))]))) ?_ ⟨⟨rfl,rfl,rfl,zKl⟩,trivial⟩
 refine FOk.frz 0 rfl ?_
 refine FOk.norm (ks:=[13,18]) (nl:=[]) (st':=(St.mk [(13,SV.agg [SV.v (qA (0:Int)),SV.v (qA (2:Int)),SV.v (qA (0:Int)),SV.v (Value.slice none 0 0),SV.v (Value.slice none 0 0),SV.v (Value.slice none 0 0),SV.v (Value.slice none 0 0)]),(18,SV.agg [SV.x 0 [],SV.v (Value.slice none 0 0),SV.v (Value.slice none 0 0),SV.v (Value.slice none 0 0)])] [HO.ext false (qB.s false 2 3 (cRg alP.1))])) (by kernel_rfl) ?_
 refine qE hm 60 ((zVq _ _).mpr ⟨qTl (And.intro (fun _=>Nat.le_refl 4) ⟨⟨[0,0,2],[0,0,2],rfl,IsC.refl _ _ _,rfl,zKh,by decide,?_⟩⟩)⟩)
 rw[decide_eq_true rfl]
 refine And.intro (fun _=>by decide) (And.intro (fun _=>by decide) (And.intro (fun _=>by decide) (And.intro (fun _=>by decide) (And.intro (fun _=>by decide) (And.intro (fun _=>by decide) (And.intro (fun _=>by decide) (And.intro (fun _=>by decide) (And.intro (fun _=>by decide) ?_))))))))
 show Q (SV.v (Value.bool (decide (eI 7=[(7:Int),(0:Int),(0:Int),(0:Int)])))) []
 rw[decide_eq_true zLc]
 exact hq
theorem zQh(Q:SV→List HO→Prop)(hq:Q (.v (.bool true)) []):FOk Try.prog Try.f10 Q [.one [0,1,1,1] 7 (Array.mk [true,true,true,true,true,true,false,false,false,false,false,true,false,false,false]) 6,.at [1,1,1,1]] (St.mk [(13,SV.agg [SV.v (qA (0:Int)),SV.v (qA (2:Int)),SV.v (qA (0:Int)),SV.v (Value.slice none 0 0),SV.v (Value.slice none 0 0),SV.v (Value.slice none 0 0),SV.v (Value.slice none 0 0)]),(18,SV.agg [SV.o 0,SV.v (Value.slice none 0 0),SV.v (Value.slice none 0 0),SV.v (Value.slice none 0 0)]),(2,SV.p 1 0)] [HO.row 43 2 3 [SV.v (qA (2:Int)),SV.o 2,SV.v (qA (2:Int)),SV.o 3,SV.v (qA (2:Int)),SV.o 4],HO.cells [SV.v (Value.slice none 0 0),SV.v (Value.slice none 0 0),SV.v (Value.slice none 0 0),SV.v (Value.slice none 0 0)] 49,HO.rowc 58 7 1 (Ct.lit 7 [qB.v (qA (3:Int)),qB.v (qA (0:Int)),qB.v (qA (0:Int)),qB.v (qD (7:Int)),qB.v (qD (0:Int)),qB.v (qD (0:Int)),qB.v (qD (0:Int))]),HO.rowc 58 7 1 (Ct.lit 7 [qB.v (qA (3:Int)),qB.v (qA (1:Int)),qB.v (qA (0:Int)),qB.v (qD (7:Int)),qB.v (qD (0:Int)),qB.v (qD (0:Int)),qB.v (qD (0:Int))]),HO.rowc 58 7 2 (Ct.app 1 (Ct.lit 7 [qB.v (qA (3:Int)),qB.v (qA (0:Int)),qB.v (qA (0:Int)),qB.v (qD (7:Int)),qB.v (qD (0:Int)),qB.v (qD (0:Int)),qB.v (qD (0:Int))]) (Ct.lit 7 [qB.v (qA (3:Int)),qB.v (qA (1:Int)),qB.v (qA (0:Int)),qB.v (qD (0:Int)),qB.v (qD (0:Int)),qB.v (qD (0:Int)),qB.v (qD (0:Int))]))]):=by
 refine FOk.cv (h':=(St.heap (St.mk [(13,SV.agg [SV.v (qA (0:Int)),SV.v (qA (2:Int)),SV.v (qA (0:Int)),SV.v (Value.slice none 0 0),SV.v (Value.slice none 0 0),SV.v (Value.slice none 0 0),SV.v (Value.slice none 0 0)]),(18,SV.agg [SV.o 0,SV.v (Value.slice none 0 0),SV.v (Value.slice none 0 0),SV.v (Value.slice none 0 0)]),(2,SV.p 1 0)] [HO.row 43 2 3 [SV.v (qA (2:Int)),SV.o 2,SV.v (qA (2:Int)),SV.o 3,SV.v (qA (2:Int)),SV.o 4],HO.cells [SV.v (Value.slice none 0 0),SV.v (Value.slice none 0 0),SV.v (Value.slice none 0 0),SV.v (Value.slice none 0 0)] 49,HO.rowc 58 7 1 (Ct.fn (cPt [⟨3,0,0,7⟩])),HO.rowc 58 7 1 (Ct.fn (cPt [⟨3,1,0,7⟩])),HO.rowc 58 7 2 (Ct.fn (cPt [⟨3,0,0,7⟩,⟨3,1,0,0⟩]))]))) ?_ ⟨HE.refl _,HE.refl _,⟨rfl,rfl,rfl,zGv⟩,⟨rfl,rfl,rfl,zGx⟩,⟨rfl,rfl,rfl,zDc⟩,trivial⟩
 refine FOk.frzH 4 rfl (FOk.frzH 3 rfl (FOk.frzH 2 rfl ?_))
 refine FOk.norm (ks:=[13,18,2]) (nl:=[]) (st':=(St.mk [(13,SV.agg [SV.v (qA (0:Int)),SV.v (qA (2:Int)),SV.v (qA (0:Int)),SV.v (Value.slice none 0 0),SV.v (Value.slice none 0 0),SV.v (Value.slice none 0 0),SV.v (Value.slice none 0 0)]),(18,SV.agg [SV.o 0,SV.v (Value.slice none 0 0),SV.v (Value.slice none 0 0),SV.v (Value.slice none 0 0)]),(2,SV.p 1 0)] [HO.rowc 43 2 3 (Ct.lit 2 [qB.v (qA (2:Int)),qB.s false 7 1 (cPt [Pt.mk (3:Int) (0:Int) (0:Int) 7]),qB.v (qA (2:Int)),qB.s false 7 1 (cPt [Pt.mk (3:Int) (1:Int) (0:Int) 7]),qB.v (qA (2:Int)),qB.s false 7 2 (cPt [Pt.mk (3:Int) (0:Int) (0:Int) 7,Pt.mk (3:Int) (1:Int) (0:Int) 0])]),HO.cells [SV.v (Value.slice none 0 0),SV.v (Value.slice none 0 0),SV.v (Value.slice none 0 0),SV.v (Value.slice none 0 0)] 49])) (by kernel_rfl) ?_
 refine FOk.cv (h':=(St.heap (St.mk [(13,SV.agg [SV.v (qA (0:Int)),SV.v (qA (2:Int)),SV.v (qA (0:Int)),SV.v (Value.slice none 0 0),SV.v (Value.slice none 0 0),SV.v (Value.slice none 0 0),SV.v (Value.slice none 0 0)]),(18,SV.agg [SV.o 0,SV.v (Value.slice none 0 0),SV.v (Value.slice none 0 0),SV.v (Value.slice none 0 0)]),(2,SV.p 1 0)] [HO.rowc 43 2 3 (Ct.fn (cRg alP.1)),HO.cells [SV.v (Value.slice none 0 0),SV.v (Value.slice none 0 0),SV.v (Value.slice none 0 0),SV.v (Value.slice none 0 0)] 49]))) ?_ ⟨⟨rfl,rfl,rfl,zKl⟩,HE.refl _,trivial⟩
 refine FOk.frz 0 rfl ?_
 refine FOk.norm (ks:=[13,18,2]) (nl:=[]) (st':=(St.mk [(13,SV.agg [SV.v (qA (0:Int)),SV.v (qA (2:Int)),SV.v (qA (0:Int)),SV.v (Value.slice none 0 0),SV.v (Value.slice none 0 0),SV.v (Value.slice none 0 0),SV.v (Value.slice none 0 0)]),(18,SV.agg [SV.x 0 [],SV.v (Value.slice none 0 0),SV.v (Value.slice none 0 0),SV.v (Value.slice none 0 0)]),(2,SV.p 1 0)] [HO.ext false (qB.s false 2 3 (cRg alP.1)),HO.cells [SV.v (Value.slice none 0 0),SV.v (Value.slice none 0 0),SV.v (Value.slice none 0 0),SV.v (Value.slice none 0 0)] 49])) (by kernel_rfl) ?_
 refine qE hm 60 ((zTe _ _).mpr ⟨qTl (And.intro (fun _=>Nat.le_refl 4) ⟨⟨[0,0,2],[0,0,2],rfl,IsC.refl _ _ _,rfl,zKh,by decide,?_⟩⟩)⟩)
 rw[decide_eq_true rfl]
 refine And.intro (fun _=>by decide) (And.intro (fun _=>by decide) (And.intro (fun _=>by decide) (And.intro (fun _=>by decide) (And.intro (fun _=>by decide) (And.intro (fun _=>by decide) (And.intro (fun _=>by decide) (And.intro (fun _=>by decide) (And.intro (fun _=>by decide) ?_))))))))
 show Q (SV.v (Value.bool (decide (eI 7=[(7:Int),(0:Int),(0:Int),(0:Int)])))) []
 rw[decide_eq_true zLc]
 exact hq
theorem zVn:Try.f10.body.isSome=true:=by kernel_rfl
theorem zVh:Nat.ble ([]:List SV).length Try.f10.ntmps=true:=by kernel_rfl
theorem zIk(Q:SV→List HO→Prop)(hq:Q (.v (.bool true)) []):qI Try.prog 10 [] [] Q:=by
 refine qJ Try.func10 zVn zVh ?_
 refine qE hm 60 ((zWi _ _).mpr ⟨?_⟩)
 repeat' (first | refine And.intro (fun _=>by omega) ?_ | refine And.intro ?_ ?_)
 ·exact FOk.norm (ks:=[13,18]) (nl:=[]) (by kernel_rfl) (zNc Q hq)
 all_goals exact FOk.norm (ks:=[13,18,2]) (nl:=[]) (by kernel_rfl) (zQh Q hq)
noncomputable def zFm:List SV→List HO→Option ((SV→List HO→Prop)→Prop)
 | [],[]=>some fun Q=>Q (.v (.bool true)) []
 | _,_=>none
theorem zEj(args:List SV)(h:List HO)(tr:(SV→List HO→Prop)→Prop)(Q:SV→List HO→Prop)(hc:zFm args h=some tr)(ht:tr Q):qI Try.prog 10 args h Q:=by
 unfold zFm at hc
 split at hc
 ·simp only[sI] at hc
  subst hc
  exact zIk Q ht
 ·cases hc
noncomputable def zZi:Con Try.prog:=zKd.add 10 zFm zEj
end Go.Proofs.Ytlmjdcbhpffanaa
/- Layout's errors, one by one. -/
namespace Go.Pl
open Go.Sx
theorem qXv(c:Cir):xA c=0∨xA c=110∨xA c=120:=by
 rw[xA]
 split
 ·split
  ·exact .inl rfl
  ·exact .inr (.inr rfl)
 ·rw[qDj]
  split
  ·exact .inr (.inl rfl)
  ·exact .inl rfl
theorem qZl(c:Cir)(k:Int)(p:Pln):(qS c k p).2=0∨(qS c k p).2=110∨(qS c k p).2=120∨(qS c k p).2=60∨(qS c k p).2=140∨(qS c k p).2=141:=by
 by_cases h:qAl c k p=0
 ·rw[qS,if_neg (fun hh=>hh h)]
  split
  ·simp
  ·split <;> simp
 ·have e:(qS c k p).2=qAl c k p:=by rw[qS,if_pos h]
  rw[e]
  have hc:=qXv c
  rw[qAl] at h ⊢
  by_cases h0:xA c=0
  ·rw[if_neg (fun hh=>hh h0)] at h ⊢
   split
   ·simp
   ·split
    ·simp
    ·split <;> simp
  ·rw[if_pos h0]
   omega
structure qXc (fx ad ins k : Int) (n0 n1 n2 n3 m0 m1 m2 m3 : Nat) (c0 c1 c2 c3 d0 d1 d2 d3 : Nat → Nat → qB) (q1 q2 q3 q4 q5 : Prop) (kS : Sht → List Int → Prop) : Prop where
  h : lSh fx ad ins n0 n1 n2 n3 m0 m1 m2 m3 c0 c1 c2 c3 d0 d1 d2 d3 fun c p => ((qS c k p).2 = 110 → q1) ∧ ((qS c k p).2 = 120 → q2) ∧ ((qS c k p).2 = 60 → q3) ∧ ((qS c k p).2 = 140 → q4) ∧ ((qS c k p).2 = 141 → q5) ∧ ((qS c k p).2 = 0 → kS (qS c k p).1.1 (qS c k p).1.2)
theorem zAe{c:Cir}{k:Int}{p:Pln}{kE:Int→Prop}{kS:Sht→List Int→Prop}(h:((qS c k p).2=110→kE 110)∧((qS c k p).2=120→kE 120)∧((qS c k p).2=60→kE 60)∧((qS c k p).2=140→kE 140)∧((qS c k p).2=141→kE 141)∧((qS c k p).2=0→kS (qS c k p).1.1 (qS c k p).1.2)):((qS c k p).2≠0→kE (qS c k p).2)∧((qS c k p).2=0→kS (qS c k p).1.1 (qS c k p).1.2):=by
 obtain⟨h1,h2,h3,h4,h5,h6⟩:=h
 refine⟨fun hn=>?_,h6⟩
 rcases qZl c k p with e | e | e | e | e | e
 ·exact absurd e hn
 ·have:=h1 e; rw[e]; exact this
 ·have:=h2 e; rw[e]; exact this
 ·have:=h3 e; rw[e]; exact this
 ·have:=h4 e; rw[e]; exact this
 ·have:=h5 e; rw[e]; exact this
end Go.Pl
namespace Go.Proofs.Ytlmjdcbhpffanaa
open Go.Sx Go.Pl
set_option linter.unusedVariables false
set_option maxRecDepth 100000
noncomputable def zDu:List SV→List HO→Option ((SV→List HO→Prop)→Prop)
 | [.agg [.v (.int .i64 fx),.v (.int .i64 ad),.v (.int .i64 ins),.x 0 [],.x 1 [],.x 2 [],.x 3 []],.v (.int .i64 k),.agg [.x 4 [],.x 5 [],.x 6 [],.x 7 []]],[.ext false (.s false 7 n0 c0),.ext false (.s false 1 n1 c1),.ext false (.s false 2 n2 c2),.ext false (.s false 2 n3 c3),.ext false (.s false 2 m0 d0),.ext false (.s false 2 m1 d1),.ext false (.s false 6 m2 d2),.ext false (.s false 1 m3 d3)]=>some fun Q=>qXc fx ad ins k n0 n1 n2 n3 m0 m1 m2 m3 c0 c1 c2 c3 d0 d1 d2 d3 (Q (.tup [.agg [.v (.slice none 0 0),.v (.slice none 0 0),.v (.slice none 0 0),.v (.slice none 0 0)],.v (.slice none 0 0),.v (.int .i64 110)]) []) (Q (.tup [.agg [.v (.slice none 0 0),.v (.slice none 0 0),.v (.slice none 0 0),.v (.slice none 0 0)],.v (.slice none 0 0),.v (.int .i64 120)]) []) (Q (.tup [.agg [.v (.slice none 0 0),.v (.slice none 0 0),.v (.slice none 0 0),.v (.slice none 0 0)],.v (.slice none 0 0),.v (.int .i64 60)]) []) (Q (.tup [.agg [.v (.slice none 0 0),.v (.slice none 0 0),.v (.slice none 0 0),.v (.slice none 0 0)],.v (.slice none 0 0),.v (.int .i64 140)]) []) (Q (.tup [.agg [.v (.slice none 0 0),.v (.slice none 0 0),.v (.slice none 0 0),.v (.slice none 0 0)],.v (.slice none 0 0),.v (.int .i64 141)]) []) (fun s ss=>Q (.tup [.agg [.x 0 [],.x 1 [],.x 2 [],.x 3 []],.x 4 [],.v (.int .i64 0)]) [.ext false (.s false 1 s.fx.length (cT s.fx)),.ext false (.s false 1 s.ad.length (cT s.ad)),.ext false (.s false 1 s.is.length (cT s.is)),.ext false (.s false 4 s.cp.length (cP s.cp)),.ext false (.s false 1 ss.length (cI ss))])
 | _,_=>none
theorem zEv(args:List SV)(h:List HO)(tr:(SV→List HO→Prop)→Prop)(Q:SV→List HO→Prop)(hc:zDu args h=some tr)(ht:tr Q):qI Try.prog 16 args h Q:=by
 unfold zDu at hc
 split at hc
 ·simp only[sI] at hc
  subst hc
  obtain⟨c,a1,a2,a3,a4,a5,a6,a7,hk,ht2⟩:=ht.h.h.h
  obtain⟨p,b1,b2,b3,b4,hp,hq⟩:=ht2.h
  refine qRp _ _ _ Q rfl ⟨⟨⟨c,a1,a2,a3,a4,a5,a6,a7,hk,⟨⟨p,b1,b2,b3,b4,hp,?_⟩⟩⟩⟩⟩
  exact zAe (kE:=fun e=>Q (.tup [.agg [.v (.slice none 0 0),.v (.slice none 0 0),.v (.slice none 0 0),.v (.slice none 0 0)],.v (.slice none 0 0),.v (.int .i64 e)]) []) (kS:=fun s ss=>Q (.tup [.agg [.x 0 [],.x 1 [],.x 2 [],.x 3 []],.x 4 [],.v (.int .i64 0)]) [.ext false (.s false 1 s.fx.length (cT s.fx)),.ext false (.s false 1 s.ad.length (cT s.ad)),.ext false (.s false 1 s.is.length (cT s.is)),.ext false (.s false 4 s.cp.length (cP s.cp)),.ext false (.s false 1 ss.length (cI ss))]) hq
 ·cases hc
noncomputable def qXg:List SV→List HO→Option ((SV→List HO→Prop)→Prop)
 | [.agg [.v (.int .i64 fx),.v (.int .i64 ad),.v (.int .i64 ins),.x 0 [],.x 1 [],.x 2 [],.x 3 []],.v (.int .i64 k),.agg [.x 4 [],.x 5 [],.v (.slice none 0 0),.x 6 []]],[.ext false (.s false 7 n0 c0),.ext false (.s false 1 n1 c1),.ext false (.s false 2 n2 c2),.ext false (.s false 2 n3 c3),.ext false (.s false 2 m0 d0),.ext false (.s false 2 m1 d1),.ext false (.s false 1 m3 d3)]=>some fun Q=>qXc fx ad ins k n0 n1 n2 n3 m0 m1 0 m3 c0 c1 c2 c3 d0 d1 (cLk []) d3 (Q (.tup [.agg [.v (.slice none 0 0),.v (.slice none 0 0),.v (.slice none 0 0),.v (.slice none 0 0)],.v (.slice none 0 0),.v (.int .i64 110)]) []) (Q (.tup [.agg [.v (.slice none 0 0),.v (.slice none 0 0),.v (.slice none 0 0),.v (.slice none 0 0)],.v (.slice none 0 0),.v (.int .i64 120)]) []) (Q (.tup [.agg [.v (.slice none 0 0),.v (.slice none 0 0),.v (.slice none 0 0),.v (.slice none 0 0)],.v (.slice none 0 0),.v (.int .i64 60)]) []) (Q (.tup [.agg [.v (.slice none 0 0),.v (.slice none 0 0),.v (.slice none 0 0),.v (.slice none 0 0)],.v (.slice none 0 0),.v (.int .i64 140)]) []) (Q (.tup [.agg [.v (.slice none 0 0),.v (.slice none 0 0),.v (.slice none 0 0),.v (.slice none 0 0)],.v (.slice none 0 0),.v (.int .i64 141)]) []) (fun s ss=>Q (.tup [.agg [.x 0 [],.x 1 [],.x 2 [],.x 3 []],.x 4 [],.v (.int .i64 0)]) [.ext false (.s false 1 s.fx.length (cT s.fx)),.ext false (.s false 1 s.ad.length (cT s.ad)),.ext false (.s false 1 s.is.length (cT s.is)),.ext false (.s false 4 s.cp.length (cP s.cp)),.ext false (.s false 1 ss.length (cI ss))])
 | _,_=>none
theorem zDb(args:List SV)(h:List HO)(tr:(SV→List HO→Prop)→Prop)(Q:SV→List HO→Prop)(hc:qXg args h=some tr)(ht:tr Q):qI Try.prog 16 args h Q:=by
 unfold qXg at hc
 split at hc
 ·simp only[sI] at hc
  subst hc
  obtain⟨c,a1,a2,a3,a4,a5,a6,a7,hk,ht2⟩:=ht.h.h.h
  obtain⟨p,b1,b2,b3,b4,hp,hq⟩:=ht2.h
  refine qQt _ _ _ Q rfl ⟨⟨⟨c,a1,a2,a3,a4,a5,a6,a7,hk,⟨⟨p,b1,b2,b3,b4,hp,?_⟩⟩⟩⟩⟩
  exact zAe (kE:=fun e=>Q (.tup [.agg [.v (.slice none 0 0),.v (.slice none 0 0),.v (.slice none 0 0),.v (.slice none 0 0)],.v (.slice none 0 0),.v (.int .i64 e)]) []) (kS:=fun s ss=>Q (.tup [.agg [.x 0 [],.x 1 [],.x 2 [],.x 3 []],.x 4 [],.v (.int .i64 0)]) [.ext false (.s false 1 s.fx.length (cT s.fx)),.ext false (.s false 1 s.ad.length (cT s.ad)),.ext false (.s false 1 s.is.length (cT s.is)),.ext false (.s false 4 s.cp.length (cP s.cp)),.ext false (.s false 1 ss.length (cI ss))]) hq
 ·cases hc
noncomputable def zRk:Con Try.prog:=zZi.add 16 (orL zDu qXg) (qZo zEv zDb)
end Go.Proofs.Ytlmjdcbhpffanaa
/- A region more: plain. -/
namespace Go.Pl
open Go.Sx
theorem qAi{c:Cir}{k:Int}{p:Pln}{lF:List (List Nat)}{z:List (List Nat)×List (List Nat)×List Int}(h0:qAl c k p=0)(h1:qAk (usN k) p.tb (List.replicate c.fx.toNat [])=some lF)(h2:xV (usN k) p.rg [] [] lF (List.replicate c.ad.toNat []) []=some z):qS c k p=((⟨z.1,z.2.1,p.is,wG z.2.2 p.lk⟩,z.2.2),0):=by
 rw[qS,if_neg (fun h=>h h0),h1]
 show(match xV (usN k) p.rg [] [] lF (List.replicate c.ad.toNat []) [] with | none=>_ | some z=>_)=_
 rw[h2]
theorem qEk{c:Cir}{k:Int}{p:Pln}(h:(qS c k p).2=0):∃ lF z,qAl c k p=0∧qAk (usN k) p.tb (List.replicate c.fx.toNat [])=some lF∧xV (usN k) p.rg [] [] lF (List.replicate c.ad.toNat []) []=some z:=by
 by_cases h0:qAl c k p=0
 ·rw[qS,if_neg (fun hh=>hh h0)] at h
  cases e1:qAk (usN k) p.tb (List.replicate c.fx.toNat []) with
  | none=>rw[e1] at h; cases h
  | some lF =>
   rw[e1] at h
   cases e2:xV (usN k) p.rg [] [] lF (List.replicate c.ad.toNat []) [] with
   | none =>
    have h':(match xV (usN k) p.rg [] [] lF (List.replicate c.ad.toNat []) [] with | none=>((qKv,([]:List Int)),(141:Int)) | some z=>((⟨z.1,z.2.1,p.is,wG z.2.2 p.lk⟩,z.2.2),0)).2=0:=h
    rw[e2] at h'; cases h'
   | some z=>exact⟨lF,z,h0,rfl,e2⟩
 ·rw[qS,if_pos h0] at h
  exact absurd h h0
end Go.Pl
namespace Go.Proofs.Ytlmjdcbhpffanaa
open Go.Sx Go.Pl
set_option linter.unusedVariables false
set_option maxRecDepth 100000
end Go.Proofs.Ytlmjdcbhpffanaa
/- Where regions stand: the rows taken, bit by bit. -/
namespace Go.Pl
open Go.Sx
theorem qMy:∀(kl:List (List Int)) (l:List Int) (x y:List Int) (a:Int),l.length=kl.length→y≠x→zM (zK kl x) (zA kl l x a) y=zM kl l y
 | [],[],x,y,a,_,h=>by simp [zK,zA,zM,h]
 | [],b::t,x,y,a,hl,_=>by simp at hl
 | k::r,[],x,y,a,hl,_=>by simp at hl
 | k::r,b::t,x,y,a,hl,h=>by
  by_cases hx:x=k
  ·subst hx; simp [zK,zA,zM,h]
  ·simp [zK,zA,zM,hx,qMy r t x y a (by simpa using hl) h]
def okM(kl:List (List Int))(ml:List Int):Prop:=ml.length=kl.length∧∀ y,0≤zM kl ml y∧zM kl ml y<18446744073709551616
theorem qZx:okM [] []:=⟨rfl,fun y=>by simp [zM]⟩
def qDl(kl:List (List Int))(ml:List Int)(y:List Int)(i:Nat):Bool:=(zM kl ml y).toNat.testBit i
theorem zUy{a b:Int}(ha:0≤a∧a<18446744073709551616)(hb:0≤b∧b<18446744073709551616):orV a b=((a.toNat|||b.toNat:Nat):Int)∧a.toNat|||b.toNat<18446744073709551616:=by
 have hl:a.toNat|||b.toNat<18446744073709551616:=Nat.or_lt_two_pow (n:=64) (show a.toNat<2^64 by omega) (show b.toNat<2^64 by omega)
 refine⟨?_,hl⟩
 rw[orV,Int.emod_eq_of_lt ha.1 ha.2,Int.emod_eq_of_lt hb.1 hb.2,qAb _ hl]
theorem zMz{a b:Int}(ha:0≤a∧a<18446744073709551616)(hb:0≤b∧b<18446744073709551616):zMr a b=((a.toNat&&&b.toNat:Nat):Int):=by
 have hl:a.toNat&&&b.toNat<18446744073709551616:=Nat.lt_of_le_of_lt Nat.and_le_left (by omega)
 rw[zMr,Int.emod_eq_of_lt ha.1 ha.2,Int.emod_eq_of_lt hb.1 hb.2,qAb _ hl]
theorem zFg(r s:Nat)(h:r+s≤63):xB (r:Int) (s:Int)=(((2^r-1)*2^s:Nat):Int)∧(2^r-1)*2^s<18446744073709551616:=by
 have h1:2^r*2^s≤2^63:=by rw[← Nat.pow_add]; exact Nat.pow_le_pow_right (by decide) h
 have h2:0<2^r:=Nat.two_pow_pos r
 have h3:0<2^s:=Nat.two_pow_pos s
 have h4:(2^r-1)*2^s≤2^r*2^s:=Nat.mul_le_mul_right _ (Nat.sub_le _ _)
 have h5:2^r≤2^r*2^s:=Nat.le_mul_of_pos_right _ h3
 have e63:(2:Nat)^63=9223372036854775808:=by decide
 rw[e63] at h1
 have h6:(2^r-1)*2^s<18446744073709551616:=by omega
 refine⟨?_,h6⟩
 rw[xB,Int.toNat_natCast,Int.toNat_natCast,if_pos (by omega),if_pos (by omega)]
 have e1:(1:Int)*2^r=((2^r:Nat):Int):=by rw[Int.one_mul]; exact(Int.natCast_pow 2 r).symm
 rw[e1,qAb _ (by omega)]
 have e2:((2^r:Nat):Int)-1=((2^r-1:Nat):Int):=by omega
 rw[e2,qAb _ (by omega)]
 have e3:(((2^r-1:Nat):Int))*2^s=(((2^r-1)*2^s:Nat):Int):=by rw[Int.natCast_mul]; congr 1
 rw[e3,qAb _ h6]
theorem zFn(r s i:Nat):((2^r-1)*2^s).testBit i=decide (s≤i∧i<s+r):=by
 rw[← Nat.shiftLeft_eq,Nat.testBit_shiftLeft,Nat.testBit_two_pow_sub_one,← Bool.decide_and]
 refine decide_eq_decide.2 ?_
 omega
theorem qCt(r s:Nat)(h:r+s≤63)(i:Nat):(xB (r:Int) (s:Int)).toNat.testBit i=decide (s≤i∧i<s+r):=by
 rw[(zFg r s h).1,Int.toNat_natCast,zFn]
theorem qNb(r s:Nat)(h:r+s≤63):0≤xB (r:Int) (s:Int)∧xB (r:Int) (s:Int)<18446744073709551616:=by
 have:=zFg r s h
 rw[this.1]; omega
theorem qIk{mk:Int}(hm:0≤mk∧mk<18446744073709551616):∀(ps:List Pt) (kl:List (List Int)) (ml:List Int),okM kl ml→okM (xO mk kl ml ps).1 (xO mk kl ml ps).2∧∀ y i,qDl (xO mk kl ml ps).1 (xO mk kl ml ps).2 y i=(qDl kl ml y i||(ps.any (fun x=>decide ([x.kd,x.co]=y))&&mk.toNat.testBit i))
 | [],kl,ml,h=>⟨h,fun y i=>by simp [xO]⟩
 | x::t,kl,ml,h=>by
  rw[xO]
  have ho:=zUy (h.2 [x.1,x.2]) hm
  have hok:okM (zK kl [x.1,x.2]) (zA kl ml [x.1,x.2] (orV (zM kl ml [x.1,x.2]) mk)):=⟨xU _ _ _ _ h.1,fun y=>by
   by_cases hy:y=[x.1,x.2]
   ·rw[hy,qFf _ _ _ _ h.1,ho.1]; have:=ho.2; omega
   ·rw[qMy _ _ _ _ _ h.1 hy]; exact h.2 y⟩
  obtain⟨a,b⟩:=qIk hm t _ _ hok
  refine⟨a,fun y i=>?_⟩
  rw[b y i,List.any_cons]
  have e:qDl (zK kl [x.1,x.2]) (zA kl ml [x.1,x.2] (orV (zM kl ml [x.1,x.2]) mk)) y i=(qDl kl ml y i||(decide ([x.kd,x.co]=y)&&mk.toNat.testBit i)):=by
   by_cases hy:y=[x.1,x.2]
   ·rw[qDl,qDl,hy,qFf _ _ _ _ h.1,ho.1,Int.toNat_natCast,Nat.testBit_or,decide_eq_true rfl,Bool.true_and]
   ·rw[qDl,qDl,qMy _ _ _ _ _ h.1 hy,decide_eq_false (fun hh=>hy hh.symm),Bool.false_and,Bool.or_false]
  rw[e,Bool.or_assoc,← Bool.and_or_distrib_right]
theorem qZq{kl:List (List Int)}{ml:List Int}(h:okM kl ml)(r s:Nat)(hrs:r+s≤63)(x:Pt):tkB kl ml (xB (r:Int) (s:Int)) x=false↔∀ i,s≤i→i<s+r→qDl kl ml [x.kd,x.co] i=false:=by
 have hm:=qNb r s hrs
 rw[tkB,zMz (h.2 [x.1,x.2]) hm]
 have e:((!(((zM kl ml [x.1,x.2]).toNat&&&(xB (r:Int) (s:Int)).toNat:Nat):Int)==(0:Int))=false)↔(zM kl ml [x.1,x.2]).toNat&&&(xB (r:Int) (s:Int)).toNat=0:=by
  rw[Bool.not_eq_false',beq_iff_eq]; omega
 rw[e]
 constructor
 ·intro h0 i h1 h2
  have:=congrArg (fun n=>Nat.testBit n i) h0
  simp only[Nat.testBit_and,Nat.zero_testBit,qCt r s hrs] at this
  rw[decide_eq_true ⟨h1,h2⟩,Bool.and_true] at this
  exact this
 ·intro h0
  refine Nat.eq_of_testBit_eq fun i=>?_
  rw[Nat.testBit_and,Nat.zero_testBit,qCt r s hrs]
  by_cases hi:s≤i∧i<s+r
  ·have:=h0 i hi.1 hi.2
   rw[qDl] at this
   rw[this,Bool.false_and]
  ·rw[decide_eq_false hi,Bool.and_false]
theorem qPm{kl:List (List Int)}{ml:List Int}{rows u:Int}{ps:List Pt}:∀(d:Nat) (s0 s:Int),qJp kl ml rows u ps d s0=some s→ps.any (tkB kl ml (xB rows s))=false
 | 0,s0,s,h=>by cases h
 | d+1,s0,s,h=>by
  rw[qJp] at h
  by_cases ha:ps.any (tkB kl ml (xB rows s0))=true
  ·rw[if_pos ha] at h; exact qPm d (s0+1) s h
  ·rw[if_neg ha] at h
   simp only[sI] at h
   rw[← h]; simpa using ha
theorem qOw{kl:List (List Int)}{ml:List Int}{rows u:Int}{ps:List Pt}{s:Int}(h:qDw kl ml rows u ps=some s):ps.any (tkB kl ml (xB rows s))=false:=by
 rw[qDw] at h
 split at h
 ·exact qPm _ _ _ h
 ·cases h
end Go.Pl
namespace Go.Proofs.Ytlmjdcbhpffanaa
open Go.Sx Go.Pl
set_option linter.unusedVariables false
set_option maxRecDepth 100000
end Go.Proofs.Ytlmjdcbhpffanaa
/- Regions stand apart, and the sheet fits: plain. -/
namespace Go.Pl
open Go.Sx
structure apR (u : Int) (kl : List (List Int)) (ml : List Int) (rs : List (Int × List Pt)) (l : List Int) : Prop where
  len : l.length = rs.length
  rng : ∀ i, i < rs.length → 0 ≤ gI l i ∧ gI l i + (gRg rs i).1 ≤ u
  free : ∀ i, i < rs.length → ∀ x ∈ (gRg rs i).2, ∀ n : Nat, gI l i ≤ n → (n : Int) < gI l i + (gRg rs i).1 → qDl kl ml [x.kd, x.co] n = false
  apart : ∀ i j, i < rs.length → j < i → ∀ x ∈ (gRg rs i).2, ∀ y ∈ (gRg rs j).2, x.kd = y.kd → x.co = y.co → gI l i + (gRg rs i).1 ≤ gI l j ∨ gI l j + (gRg rs j).1 ≤ gI l i
theorem zBr{ps:List Pt}{x y:Pt}(hy:y∈ps)(h1:x.kd=y.kd)(h2:x.co=y.co):ps.any (fun z=>decide ([z.kd,z.co]=[x.kd,x.co]))=true:=by
 rw[List.any_eq_true]
 exact⟨y,hy,decide_eq_true (by rw[h1,h2])⟩
theorem qLg{u:Int}(hu:u≤28):∀(rs:List (Int×List Pt)) (kl:List (List Int)) (ml:List Int) (lF lA:List (List Nat)) (ss:List Int) (z:List (List Nat)×List (List Nat)×List Int),xV u rs kl ml lF lA ss=some z→okM kl ml→(∀ r∈rs,1≤r.1)→∃ l,z.2.2=ss++l∧apR u kl ml rs l
 | [],kl,ml,lF,lA,ss,z,h,_,_=>by
  simp only[xV,sI] at h
  subst h
  exact⟨[],(List.append_nil _).symm,rfl,fun i hi=>absurd hi (Nat.not_lt_zero i),fun i hi=>absurd hi (Nat.not_lt_zero i),fun i j hi=>absurd hi (Nat.not_lt_zero i)⟩
 | r::t,kl,ml,lF,lA,ss,z,h,hm,hr=>by
  rw[xV] at h
  have h1:=hr r List.mem_cons_self
  have ht:=fun x hx=>hr x (List.mem_cons_of_mem r hx)
  cases hp:qDw kl ml r.1 u r.2 with
  | none=>rw[hp] at h; cases h
  | some s =>
   rw[hp] at h
   have hs:=qAx hp
   have hf:=qOw hp
   have er:((r.1.toNat:Nat):Int)=r.1:=Int.toNat_of_nonneg (by omega)
   have es:((s.toNat:Nat):Int)=s:=Int.toNat_of_nonneg hs.1
   have hmk:=qNb r.1.toNat s.toNat (by omega)
   have hmb:=qCt r.1.toNat s.toNat (by omega)
   rw[er,es] at hmk hmb
   obtain⟨m1,m2⟩:=qIk hmk r.2 kl ml hm
   obtain⟨l,e1,a1,a2,a3,a4⟩:=qLg hu t _ _ _ _ _ z h m1 ht
   have fr0:∀ x∈r.2,∀ n:Nat,s≤n→(n:Int)<s+r.1→qDl kl ml [x.kd,x.co] n=false:=by
    intro x hx n h1 h2
    have:=List.any_eq_false.1 hf x hx
    rw[Bool.not_eq_true,← er,← es,qZq hm _ _ (by omega)] at this
    exact this n (by omega) (by omega)
   refine⟨s::l,by rw[e1,List.append_assoc]; rfl,by rw[List.length_cons,List.length_cons,a1],fun i hi=>?_,fun i hi=>?_,fun i j hi hj=>?_⟩
   ·match i with
    | 0=>exact hs
    | i+1=>exact a2 i (Nat.lt_of_succ_lt_succ hi)
   ·match i with
    | 0=>exact fr0
    | i+1 =>
     intro x hx n h1 h2
     have:=a3 i (Nat.lt_of_succ_lt_succ hi) x hx n h1 h2
     rw[m2,Bool.or_eq_false_iff] at this
     exact this.1
   ·match i,j with
    | 0,_=>omega
    | i+1,j+1=>exact a4 i j (Nat.lt_of_succ_lt_succ hi) (by omega)
    | i+1,0 =>
     intro x hx y hy hk hc
     show gI l i+(gRg t i).1≤s∨s+r.1≤gI l i
     have hi':=Nat.lt_of_succ_lt_succ hi
     have b1:=a2 i hi'
     have b2:=ht _ (xK hi')
     have b3:=a3 i hi' x hx
     rcases Int.lt_or_le s (gI l i+(gRg t i).1) with c1 | c1
     ·rcases Int.lt_or_le (gI l i) (s+r.1) with c2 | c2
      ·exfalso
       have b4:=b3 (max (gI l i) s).toNat (by omega) (by omega)
       rw[m2,zBr (ps:=r.2) hy hk hc,Bool.true_and,hmb,Bool.or_eq_false_iff] at b4
       have:=of_decide_eq_false b4.2
       omega
      ·exact .inr c2
     ·exact .inl c1
theorem qHk{u:Int}:∀(ts:List (Int×List Nat)) (lF z:List (List Nat)),qAk u ts lF=some z→z.length=lF.length
 | [],lF,z,h=>by simp only[qAk,sI] at h; rw[h]
 | t::r,lF,z,h=>by
  rw[qAk] at h
  split at h
  ·cases h
  ·rw[qHk r _ z h,List.length_set]
theorem qIn{c:Cir}{u:Int}:∀(rs:List (Int×List Pt)) (kl:List (List Int)) (ml:List Int) (lF lA:List (List Nat)) (ss:List Int) (z:List (List Nat)×List (List Nat)×List Int),xV u rs kl ml lF lA ss=some z→(∀ r∈rs,rgR c r)→lF.length=c.fx.toNat→lA.length=c.ad.toNat→(∀ q,((gT lF q).length:Int)≤u)→(∀ q,((gT lA q).length:Int)≤u)→z.1.length=lF.length∧z.2.1.length=lA.length∧(∀ q,((gT z.1 q).length:Int)≤u)∧∀ q,((gT z.2.1 q).length:Int)≤u
 | [],kl,ml,lF,lA,ss,z,h,_,_,_,h3,h4=>by
  simp only[xV,sI] at h
  subst h
  exact⟨rfl,rfl,h3,h4⟩
 | r::t,kl,ml,lF,lA,ss,z,h,hr,h1,h2,h3,h4=>by
  rw[xV] at h
  cases hp:qDw kl ml r.1 u r.2 with
  | none=>rw[hp] at h; cases h
  | some s =>
   rw[hp] at h
   have hs:=qAx hp
   have hl:=qDn s r.2 lF lA
   have hle:=qKc hs.1 hs.2 r.2 lF lA (hr r List.mem_cons_self).x h1 h2 h3 h4
   have ih:=qIn t _ _ _ _ _ z h (fun x hx=>hr x (List.mem_cons_of_mem r hx)) (by rw[hl.1,h1]) (by rw[hl.2,h2]) hle.1 hle.2
   rw[hl.1,hl.2] at ih
   exact ih
theorem qYs{n u:Int}{t:List (List Nat)}(h:(t.length:Int)=n)(hq:∀ q,((gT t q).length:Int)≤u):wrT n u t=false:=by
 rw[wrT,h,Bool.or_eq_false_iff]
 refine⟨by simp,?_⟩
 rw[List.any_eq_false]
 intro x hx
 obtain⟨q,hq1,rfl⟩:=List.mem_iff_getElem.1 hx
 have:=hq q
 rw[gT,List.getD_eq_getElem?_getD,List.getElem?_eq_getElem hq1] at this
 rw[wK,Bool.not_eq_true]
 exact decide_eq_false (by simpa using this)
theorem qFd{c:Cir}{p:Pln}{u:Int}{l:List Int}(ha:∀ i,i<p.rg.length→0≤gI l i∧gI l i+(gRg p.rg i).1≤u){x:Int×Int×Int}(h:enR c p u x):qCm c.eqs.length u (qAf l x).1 (qAf l x).2=false:=by
 obtain⟨r0,r1,c0,c1,o0,o1,o2⟩:=h
 have e:0≤(qAf l x).2∧(qAf l x).2<u:=by
  rw[qAf]
  show 0≤(if 0≤x.1 then x.2.2+gI l x.1.toNat else x.2.2)∧(if 0≤x.1 then x.2.2+gI l x.1.toNat else x.2.2)<u
  by_cases hx:0≤x.1
  ·rw[if_pos hx]
   have a:=ha x.1.toNat (by omega)
   have b:=o2 hx
   omega
  ·rw[if_neg hx]
   have b:=o1 (by omega)
   omega
 have e1:(qAf l x).1=x.2.1:=rfl
 rw[qCm,e1]
 simp only[decide_eq_false_iff_not]
 omega
structure laI (c : Cir) (k : Int) (p : Pln) : Prop where
  h0 : qAl c k p = 0
  k3 : 3 ≤ k
  k5 : k ≤ 5
  ck : xA c = 0
  pr : plR c p (usN k)
  us : 0 ≤ usN k ∧ usN k ≤ 28
theorem qKn{c:Cir}{k:Int}{p:Pln}(h0:qAl c k p=0):laI c k p:=by
 obtain⟨a1,a2,a3,a4⟩:=qHz h0
 exact⟨h0,by omega,by omega,a1,qNe a4,zLh (by omega)⟩
theorem qDc{c:Cir}{k:Int}{p:Pln}(h:(qS c k p).2=0):apR (usN k) [] [] p.rg (qS c k p).1.2:=by
 obtain⟨lF,z,h0,e1,e2⟩:=qEk h
 have I:=qKn h0
 obtain⟨l,e3,a⟩:=qLg I.us.2 _ _ _ _ _ _ _ e2 qZx fun r hr=>(I.pr.r r hr).w
 rw[qAi h0 e1 e2]
 show apR (usN k) [] [] p.rg z.2.2
 rw[e3]; exact a
theorem zDf{c:Cir}{k:Int}{p:Pln}(h:(qS c k p).2=0):qVy c k (qS c k p).1.1=0:=by
 have ap:=qDc h
 obtain⟨lF,z,h0,e1,e2⟩:=qEk h
 have I:=qKn h0
 have hcn:=of_decide_eq_true (qHc I.ck)
 have hcn1:=hcn.1
 have hcn2:=hcn.2.1
 rw[qAi h0 e1 e2] at ap ⊢
 have l1:=qHk _ _ _ e1
 rw[List.length_replicate] at l1
 obtain⟨b1,b2,b3,b4⟩:=qIn _ _ _ _ _ _ _ e2 I.pr.r l1 (List.length_replicate) (qKb _ _ _ e1 (qAo _ I.us.1)) (qAo _ I.us.1)
 rw[l1] at b1
 rw[List.length_replicate] at b2
 have f1:wrT c.fx (usN k) z.1=false:=qYs (by omega) b3
 have f2:wrT c.ad (usN k) z.2.1=false:=qYs (by omega) b4
 have f3:wrT c.ins (usN k) p.is=false:=qYs I.pr.i (fun q=>by
  rcases Nat.lt_or_ge q p.is.length with hq | hq
  ·exact I.pr.iu _ (qBt hq)
  ·rw[zEe hq]; exact I.us.1)
 have f4:wrP c.eqs.length (usN k) (wG z.2.2 p.lk)=false:=by
  rw[wrP,Bool.or_eq_false_iff]
  refine⟨decide_eq_false (by rw[wG,List.length_map]; have:=I.pr.nl; omega),?_⟩
  rw[List.any_eq_false]
  intro y hy
  obtain⟨x,hx,rfl⟩:=List.mem_map.1 hy
  have e:=I.pr.l x hx
  have g1:=qFd ap.rng e.1
  have g2:=qFd ap.rng e.2
  rw[qXw,Bool.not_eq_true,Bool.or_eq_false_iff]
  exact⟨g1,g2⟩
 show qVy c k ⟨z.1,z.2.1,p.is,wG z.2.2 p.lk⟩=0
 rw[qVy,if_neg (fun hh=>hh I.ck),if_neg (by have:=I.k3; omega),if_neg (by have:=I.k5; omega)]
 show(if wrT c.fx (usN k) z.1=true then _ else if wrT c.ad (usN k) z.2.1=true then _ else if wrT c.ins (usN k) p.is=true then _ else if wrP c.eqs.length (usN k) (wG z.2.2 p.lk)=true then _ else _)=_
 rw[f1,f2,f3,f4]; rfl
/-! ### the sheet is one of the machine's -/
def qHn(t:List (List Nat)):Prop:=∀ q j,gE (gT t q) j<top
theorem qRu(l:List Nat)(r v k:Nat):gE (zO l r v) k=if k=r then v else gE l k:=by
 rw[zO,zGo _ _ _ _ (by rw[List.length_append,List.length_replicate]; omega)]
 by_cases hk:k=r
 ·rw[if_pos hk,if_pos hk]
 ·rw[if_neg hk,if_neg hk,gE,gE,List.getD_eq_getElem?_getD,List.getD_eq_getElem?_getD]
  rcases Nat.lt_or_ge k l.length with h | h
  ·rw[List.getElem?_append_left h]
  ·rw[List.getElem?_append_right h,List.getElem?_eq_none h,List.getElem?_replicate]
   split <;> rfl
theorem zAa(l:List (List Nat))(k q:Nat)(x:List Nat):gT (l.set k x) q=if q=k∧k<l.length then x else gT l q:=by
 rcases Nat.lt_or_ge k l.length with h | h
 ·rw[qBx l k q x h]
  by_cases hq:q=k
  ·rw[if_pos hq,if_pos ⟨hq,h⟩]
  ·rw[if_neg hq,if_neg (fun hh=>hq hh.1)]
 ·rw[List.set_eq_of_length_le h,if_neg (by omega)]
theorem qVs{t:List (List Nat)}(h:qHn t)(k r v:Nat)(hv:v<top):qHn (t.set k (zO (gT t k) r v)):=by
 intro q j
 rw[zAa]
 split
 ·rw[qRu]; split
  ·exact hv
  ·exact h _ _
 ·exact h _ _
theorem qUb(n:Nat):qHn (List.replicate n []):=by
 intro q j; rw[qIh]; exact(by decide:0<top)
theorem qTo{u:Int}:∀(ts:List (Int×List Nat)) (lF z:List (List Nat)),qAk u ts lF=some z→qHn lF→(∀ t∈ts,∀ v∈t.2,v<top)→qHn z
 | [],lF,z,h,hc,_=>by
  simp only[qAk,sI] at h
  subst h
  exact hc
 | t::r,lF,z,h,hc,ht=>by
  rw[qAk] at h
  split at h
  ·cases h
  ·refine qTo r _ z h (fun q j=>?_) fun x hx=>ht x (List.mem_cons_of_mem _ hx)
   rw[zAa]
   split
   ·exact wM (ht t List.mem_cons_self) j
   ·exact hc q j
theorem qNc(s:Int):∀(ps:List Pt) (lF lA:List (List Nat)),(∀ x∈ps,x.v<top)→qHn lF→qHn lA→qHn (xZ s ps lF lA).1∧qHn (xZ s ps lF lA).2
 | [],_,_,_,h1,h2=>⟨h1,h2⟩
 | x::t,lF,lA,h,h1,h2=>by
  have hx:=h x List.mem_cons_self
  have ht:=fun y hy=>h y (List.mem_cons_of_mem x hy)
  rw[xZ]
  split
  ·exact qNc s t _ _ ht (qVs h1 _ _ _ hx) h2
  ·exact qNc s t _ _ ht h1 (qVs h2 _ _ _ hx)
theorem qTv{u:Int}:∀(rs:List (Int×List Pt)) (kl:List (List Int)) (ml:List Int) (lF lA:List (List Nat)) (ss:List Int) (z:List (List Nat)×List (List Nat)×List Int),xV u rs kl ml lF lA ss=some z→(∀ r∈rs,∀ x∈r.2,x.v<top)→qHn lF→qHn lA→qHn z.1∧qHn z.2.1
 | [],kl,ml,lF,lA,ss,z,h,_,h1,h2=>by
  simp only[xV,sI] at h
  subst h
  exact⟨h1,h2⟩
 | r::t,kl,ml,lF,lA,ss,z,h,hr,h1,h2=>by
  rw[xV] at h
  cases hp:qDw kl ml r.1 u r.2 with
  | none=>rw[hp] at h; cases h
  | some s =>
   rw[hp] at h
   have e:=qNc s r.2 lF lA (hr r List.mem_cons_self) h1 h2
   exact qTv t _ _ _ _ _ z h (fun x hx=>hr x (List.mem_cons_of_mem r hx)) e.1 e.2
theorem zGy{t:List (List Nat)}(h:qHn t)(h1:∀ q,((gT t q).length:Int)≤28)(h2:t.length≤1000000):okT t:=by
 refine⟨fun x hx=>?_,by omega⟩
 obtain⟨q,hq,rfl⟩:=List.mem_iff_getElem.1 hx
 have e:t[q]=gT t q:=by rw[gT,List.getD_eq_getElem?_getD,List.getElem?_eq_getElem hq]; rfl
 rw[e]
 refine⟨fun v hv=>?_,by have:=h1 q; omega⟩
 obtain⟨j,hj,rfl⟩:=List.mem_iff_getElem.1 hv
 have:=h q j
 rw[gE,List.getD_eq_getElem?_getD,List.getElem?_eq_getElem hj] at this
 exact this
theorem zGg{c:Cir}{k:Int}{p:Pln}(hp:p.ok)(h:(qS c k p).2=0):(qS c k p).1.1.ok:=by
 have ap:=qDc h
 obtain⟨lF,z,h0,e1,e2⟩:=qEk h
 have I:=qKn h0
 have hcn:=of_decide_eq_true (qHc I.ck)
 have hcn1:=hcn.1
 have hcn2:=hcn.2.1
 rw[qAi h0 e1 e2] at ap ⊢
 have l1:=qHk _ _ _ e1
 rw[List.length_replicate] at l1
 obtain⟨b1,b2,b3,b4⟩:=qIn _ _ _ _ _ _ _ e2 I.pr.r l1 (List.length_replicate) (qKb _ _ _ e1 (qAo _ I.us.1)) (qAo _ I.us.1)
 rw[l1] at b1
 rw[List.length_replicate] at b2
 have T:=qTv _ _ _ _ _ _ _ e2 (fun r hr x hx=>((hp.r.1 r hr).2.1 x hx).2.2.2) (qTo _ _ _ e1 (qUb _) fun t ht=>(hp.t.1 t ht).2.1) (qUb _)
 have u28:=I.us.2
 have o1:okT z.1:=zGy T.1 (fun q=>by have:=b3 q; omega) (by omega)
 have o2:okT z.2.1:=zGy T.2 (fun q=>by have:=b4 q; omega) (by omega)
 refine⟨o1,o2,hp.i,fun y hy=>?_,?_⟩
 ·obtain⟨x,hx,rfl⟩:=List.mem_map.1 hy
  have e:=hp.l.1 x hx
  have eb:=I.pr.l x hx
  have g1:=qFd ap.rng eb.1
  have g2:=qFd ap.rng eb.2
  rw[qCm] at g1 g2
  simp only[decide_eq_false_iff_not] at g1 g2
  unfold i64 at e ⊢
  have:=hcn
  exact⟨e.1.2.1,by show _≤(qAf z.2.2 x.1).2∧(qAf z.2.2 x.1).2<_; omega,e.2.2.1,by show _≤(qAf z.2.2 x.2).2∧(qAf z.2.2 x.2).2<_; omega⟩
 ·show(wG z.2.2 p.lk).length*32≤_
  rw[wG,List.length_map]
  have:=I.pr.nl
  omega
def usB(kd co:Int)(l:List Pt):Bool:=l.any fun x=>decide (x.kd=kd)&&decide (x.co=co)
end Go.Pl
namespace Go.Proofs.Ytlmjdcbhpffanaa
open Go.Sx Go.Pl
set_option linter.unusedVariables false
set_option maxRecDepth 100000
end Go.Proofs.Ytlmjdcbhpffanaa
/- Has a region a value in a column? -/
namespace Go.Pl
open Go.Sx
structure lPp (n : Nat) (c : Nat → Nat → qB) (k : List Pt → Prop) : Prop where
  h : ∃ ps : List Pt, n = ps.length ∧ IsC n 7 c (cPt ps) ∧ ps.length ≤ 4000000000000 ∧ k ps
end Go.Pl
namespace Go.Proofs.Ytlmjdcbhpffanaa
open Go.Sx Go.Pl
set_option linter.unusedVariables false
set_option maxRecDepth 100000
theorem zZl(ps:List Pt)(w kd co:Int)(K:List It→St→Prop)(R:SV→List HO→Prop):W (xwp Try.prog X zRk [] 60 (qO Try.f22 [] [⟨[0,1,0,1],[7,3,1,2],[]⟩]) [] [.at []] ⟨qQ 0 [.agg [.v (.int .i64 w),.x 0 []],.v (.int .i64 kd),.v (.int .i64 co)],[.ext false (.s false 7 ps.length (cPt ps))]⟩ K R)=W (K [.at [0,1,0,1],.blk 0,.at [1,1]] (St.mk [(7,.v (qA 0)),(3,.p 0 0),(1,.v (qA kd)),(2,.v (qA co))] [.cells [.v (qA w),.x 1 []] 43,.ext false (.s false 7 ps.length (cPt ps))])):=by kernel_rfl
theorem zUc(ps:List Pt)(w kd co:Int)(i M:Nat)(K:List It→St→Prop)(R:SV→List HO→Prop):W (xwp Try.prog X zRk [] 60 (qO Try.f22 [] [⟨[0,1,0,1],[7,3,1,2],[]⟩]) [] (.at [0,0,1,0,1]::.rnd [0,0,1,0,1] M::[.blk 0,.at [1,1]]) (St.mk [(7,.v (qA (i:Int))),(3,.p 0 0),(1,.v (qA kd)),(2,.v (qA co))] [.cells [.v (qA w),.x 1 []] 43,.ext false (.s false 7 ps.length (cPt ps))]) K R)=W (bif decide ((↑i:Int)<(↑ps.length:Int)) then(∀ M:Mem,(0:Int)≤(↑i:Int)∧(↑i:Int)<(↑ps.length:Int))∧(∀ M:Mem,i<List.length ps)∧(∀ M:Mem,i<List.length ps)∧bif(gPt ps i).1==kd then(∀ M:Mem,(0:Int)≤(↑i:Int)∧(↑i:Int)<(↑ps.length:Int))∧(∀ M:Mem,i<List.length ps)∧(∀ M:Mem,i<List.length ps)∧bif(gPt ps i).2==co then R (.v (.bool true)) [] else K [.rnd [0,0,1,0,1] M,.blk 0,.at [1,1]] (St.mk [(7,.v (qA (IntKind.wrap .i64 ((↑i:Int)+(1:Int))))),(3,.p 0 0),(1,.v (qA kd)),(2,.v (qA co))] [.cells [.v (qA w),.x 1 []] 43,.ext false (.s false 7 ps.length (cPt ps))]) else K [.rnd [0,0,1,0,1] M,.blk 0,.at [1,1]] (St.mk [(7,.v (qA (IntKind.wrap .i64 ((↑i:Int)+(1:Int))))),(3,.p 0 0),(1,.v (qA kd)),(2,.v (qA co))] [.cells [.v (qA w),.x 1 []] 43,.ext false (.s false 7 ps.length (cPt ps))]) else R (.v (.bool false)) []):=by kernel_rfl
theorem zDn{kd co:Int}{l:List Pt}{i:Nat}(h:i<l.length):usB kd co (l.drop i)=(decide ((gPt l i).kd=kd)&&decide ((gPt l i).co=co)||usB kd co (l.drop (i+1))):=by
 rw[qCj h,usB,List.any_cons]; rfl
theorem qMb(ps:List Pt)(hb:ps.length≤4000000000000)(w kd co:Int)(Q:SV→List HO→Prop):∀(d i:Nat),i+d=ps.length→Q (.v (.bool (usB kd co (ps.drop i)))) [] →
  FOk Try.prog Try.f22 Q (.rnd [0,0,1,0,1] (d+1)::[.blk 0,.at [1,1]]) (St.mk [(7,SV.v (qA (i:Int))),(3,SV.p 0 0),(1,SV.v (qA kd)),(2,SV.v (qA co))] [HO.cells [SV.v (qA w),SV.x 1 []] 43,HO.ext false (qB.s false 7 ps.length (cPt ps))])
 | 0,i,hd,hq=>by
  refine FOk.rnd (qE hm 60 ((zUc ps w kd co i 0 _ _).mpr ⟨?_⟩))
  rw[qF,if_neg (by omega)]
  rw[List.drop_eq_nil_of_le (by omega)] at hq
  exact hq
 | d+1,i,hd,hq=>by
  have hi:i<ps.length:=by omega
  rw[zDn hi] at hq
  refine FOk.rnd (qE hm 60 ((zUc ps w kd co i (d+1) _ _).mpr ⟨?_⟩))
  rw[qF,if_pos (by omega),qN _ (by omega)]
  repeat' (refine And.intro (fun _=>by omega) ?_)
  rw[zF]
  refine qH (fun h=>?_) (fun h=>?_)
  ·repeat' (refine And.intro (fun _=>by omega) ?_)
   rw[zF]
   refine qH (fun h2=>?_) (fun h2=>?_)
   ·rw[decide_eq_true h,decide_eq_true h2] at hq; exact hq
   ·rw[decide_eq_false h2,Bool.and_false,Bool.false_or] at hq
    exact qMb ps hb w kd co Q d (i+1) (by omega) hq
  ·rw[decide_eq_false h,Bool.false_and,Bool.false_or] at hq
   exact qMb ps hb w kd co Q d (i+1) (by omega) hq
theorem zXn:Try.f22.body.isSome=true:=by kernel_rfl
theorem zYw(w kd co:Int):Nat.ble ([.agg [.v (.int .i64 w),.x 0 []],.v (.int .i64 kd),.v (.int .i64 co)]:List SV).length Try.f22.ntmps=true:=by kernel_rfl
theorem zSb(ps:List Pt)(hb:ps.length≤4000000000000)(w kd co:Int)(Q:SV→List HO→Prop)(hq:Q (.v (.bool (usB kd co ps))) []):qI Try.prog 22 [.agg [.v (.int .i64 w),.x 0 []],.v (.int .i64 kd),.v (.int .i64 co)] [.ext false (.s false 7 ps.length (cPt ps))] Q:=by
 refine qJ Try.func22 zXn (zYw w kd co) ?_
 refine qE hm 60 ((zZl ps w kd co _ _).mpr ⟨?_⟩)
 exact FOk.loop (ps.length+1) (by kernel_rfl) (qMb ps hb w kd co Q ps.length 0 (by omega) (by rw[List.drop_zero]; exact hq))
noncomputable def zMy:List SV→List HO→Option ((SV→List HO→Prop)→Prop)
 | [.agg [.v (.int .i64 w),.x 0 []],.v (.int .i64 kd),.v (.int .i64 co)],[.ext false (.s false 7 n c)]=>some fun Q=>lPp n c fun ps=>Q (.v (.bool (usB kd co ps))) []
 | _,_=>none
theorem zIb(args:List SV)(h:List HO)(tr:(SV→List HO→Prop)→Prop)(Q:SV→List HO→Prop)(hc:zMy args h=some tr)(ht:tr Q):qI Try.prog 22 args h Q:=by
 unfold zMy at hc
 split at hc
 ·simp only[sI] at hc
  subst hc
  obtain⟨ps,rfl,he,hb,hq⟩:=ht.h
  exact qI.ac (zSb ps hb _ _ _ Q hq) ⟨⟨rfl,rfl,rfl,rfl,he⟩,trivial⟩
 ·cases hc
noncomputable def zPu:Con Try.prog:=zRk.add 22 zMy zIb
end Go.Proofs.Ytlmjdcbhpffanaa
/- Each value stands where its region does, and there are no others: plain. -/
namespace Go.Pl
open Go.Sx
def nzV(v:Nat):Nat:=if v=0 then 0 else 1
def nzL:List Nat→Nat
 | v::t=>nzV v+nzL t
 | []=>0
def nzT:List (List Nat)→Nat
 | l::t=>nzL l+nzT t
 | []=>0
def nzP:List Pt→Nat
 | x::t=>nzV x.v+nzP t
 | []=>0
def nzR:List (Int×List Pt)→Nat
 | r::t=>nzP r.2+nzR t
 | []=>0
def nzB:List (Int×List Nat)→Nat
 | t::r=>nzL t.2+nzB r
 | []=>0
theorem zBj:∀(l:List Nat) (r v:Nat),r<l.length→nzL (l.set r v)+nzV (gE l r)=nzL l+nzV v
 | [],r,v,h=>absurd h (Nat.not_lt_zero r)
 | a::t,0,v,_=>by
  show nzV v+nzL t+nzV a=nzV a+nzL t+nzV v
  omega
 | a::t,r+1,v,h=>by
  have ih:=zBj t r v (Nat.lt_of_succ_lt_succ h)
  show nzV a+nzL (t.set r v)+nzV (gE t r)=nzV a+nzL t+nzV v
  omega
theorem zAc:∀(n:Nat),nzL (List.replicate n 0)=0
 | 0=>rfl
 | n+1=>by rw[List.replicate_succ,nzL,zAc n]; rfl
theorem zBq:∀(l m:List Nat),nzL (l++m)=nzL l+nzL m
 | [],m=>by rw[List.nil_append]; show _=0+_; omega
 | a::t,m=>by rw[List.cons_append,nzL,nzL,zBq t m]; omega
theorem qXa(l:List Nat)(n k:Nat):gE (l++List.replicate n 0) k=gE l k:=by
 rw[gE,gE,List.getD_eq_getElem?_getD,List.getD_eq_getElem?_getD]
 rcases Nat.lt_or_ge k l.length with h | h
 ·rw[List.getElem?_append_left h]
 ·rw[List.getElem?_append_right h,List.getElem?_eq_none h,List.getElem?_replicate]
  split <;> rfl
theorem qWh{l:List Nat}{r v:Nat}(h:gE l r=0):nzL (zO l r v)=nzL l+nzV v:=by
 have:=zBj (l++List.replicate (r+1-l.length) 0) r v (by rw[List.length_append,List.length_replicate]; omega)
 rw[qXa,h,zBq,zAc] at this
 rw[zO]
 have e:nzV 0=0:=rfl
 omega
theorem qJt:∀(t:List (List Nat)) (k:Nat) (x:List Nat),k<t.length→nzT (t.set k x)+nzL (gT t k)=nzT t+nzL x
 | [],k,x,h=>absurd h (Nat.not_lt_zero k)
 | a::t,0,x,_=>by
  show nzL x+nzT t+nzL a=nzL a+nzT t+nzL x
  omega
 | a::t,k+1,x,h=>by
  have ih:=qJt t k x (Nat.lt_of_succ_lt_succ h)
  show nzL a+nzT (t.set k x)+nzL (gT t k)=nzL a+nzT t+nzL x
  omega
theorem zBp:∀(n:Nat),nzT (List.replicate n [])=0
 | 0=>rfl
 | n+1=>by rw[List.replicate_succ,nzT,zBp n]; rfl
theorem qBy:∀(kl:List (List Int)) (x y:List Int),yN (zK kl x) y=(yN kl y||decide (y=x))
 | [],x,y=>by simp [zK,yN]
 | k::r,x,y=>by
  by_cases hx:x=k
  ·subst hx
   simp only[zK,decide_true,cond_true,yN]
   cases decide (y=x) <;> simp
  ·have ih:=qBy r x y
   simp only[zK,decide_eq_false hx,cond_false,yN,ih,Bool.or_assoc]
theorem qQc(fx:Int):∀(l:List (Int×List Nat)) (met:List (List Int)),qNq fx met l=true→(∀ t∈l,yN met [t.1]=false)∧l.Pairwise (fun a b=>a.1≠b.1)
 | [],_,_=>⟨fun t ht=>(by cases ht),List.Pairwise.nil⟩
 | x::r,met,h=>by
  rw[qNq,jE,jE,jE] at h
  obtain⟨h0,_,_,h3⟩:=h
  obtain⟨a,b⟩:=qQc fx r _ h3
  refine⟨fun t ht=>?_,List.Pairwise.cons (fun t ht e=>?_) b⟩
  ·rcases List.mem_cons.1 ht with rfl | ht
   ·exact h0
   ·have:=a t ht
    rw[qBy,Bool.or_eq_false_iff] at this
    exact this.1
  ·have:=a t ht
   rw[qBy,Bool.or_eq_false_iff,e] at this
   exact absurd this.2 (by simp)
def zIr(a b:Pt):Prop:=a.kd=b.kd∧a.co=b.co∧a.of=b.of
structure rgV (p : Pln) (l : List Pt) : Prop where
  d : l.Pairwise fun a b => ¬ zIr a b
  t : ∀ x ∈ l, x.kd = 2 → ∀ t ∈ p.tb, t.1 ≠ x.co
theorem zEs{c:Cir}{p:Pln}{rows:Int}{x:Pt}(h:qTt c p rows x.1 x.2 x.3=true)(hk:x.kd=2):∀ t∈p.tb,t.1≠x.co:=by
 rw[qTt,jE,jE,jE,jE,jE] at h
 obtain⟨_,_,_,_,_,h⟩:=h
 have e:(!x.kd==(2:Int))=false:=by rw[hk]; rfl
 rw[e,cond_false] at h
 intro t ht e2
 have h':p.tb.any (qWt x.co)=false:=by simpa using h
 have:=List.any_eq_false.1 h' t ht
 rw[qWt] at this
 exact this (by simp [e2])
theorem qPx{c:Cir}{p:Pln}{rows:Int}:∀(l:List Pt) (met:List (List Int)),qYf c p rows met l=true→(∀ x∈l,yN met (ptK x)=false)∧rgV p l
 | [],_,_=>⟨fun t ht=>(by cases ht),List.Pairwise.nil,fun t ht=>(by cases ht)⟩
 | x::r,met,h=>by
  rw[qYf,jE,jE] at h
  obtain⟨h0,h1,h3⟩:=h
  obtain⟨a,b1,b2⟩:=qPx r _ h3
  refine⟨fun t ht=>?_,List.Pairwise.cons (fun t ht e=>?_) b1,fun t ht=>?_⟩
  ·rcases List.mem_cons.1 ht with rfl | ht
   ·exact h0
   ·have:=a t ht
    rw[qBy,Bool.or_eq_false_iff] at this
    exact this.1
  ·have:=a t ht
   have e':ptK t=ptK x:=by rw[ptK,ptK,e.1,e.2.1,e.2.2]
   rw[qBy,Bool.or_eq_false_iff,e'] at this
   exact absurd this.2 (by simp)
  ·rcases List.mem_cons.1 ht with rfl | ht
   ·exact zEs (by simpa using h1)
   ·exact b2 t ht
theorem qXy{c:Cir}{p:Pln}{u:Int}(h:qBs c p u=true):p.tb.Pairwise (fun a b=>a.1≠b.1)∧∀ r∈p.rg,rgV p r.2:=by
 rw[qBs,qGq,qGq,qGq,qGq,jE,jE] at h
 obtain⟨_,_,h3,_,_,h6,_⟩:=h
 refine⟨(qQc _ _ _ h3).2,fun r hr=>?_⟩
 have:=List.any_eq_false.1 h6 r hr
 have h:qSi c p r=true:=by simpa[rgN] using this
 rw[qSi,jE,jE] at h
 exact(qPx r.2 [] h.2.2).2
def qAw(lF lA:List (List Nat))(kd:Int)(co row:Nat):Nat:=if kd=2 then gE (gT lF co) row else gE (gT lA co) row
def qGu(s:Int)(x:Pt)(lF lA:List (List Nat)):List (List Nat)×List (List Nat):=if x.kd=2 then(lF.set x.co.toNat (zO (gT lF x.co.toNat) (s+x.of).toNat x.v),lA) else(lF,lA.set x.co.toNat (zO (gT lA x.co.toNat) (s+x.of).toNat x.v))
theorem qNg(s:Int)(x:Pt)(t:List Pt)(lF lA:List (List Nat)):xZ s (x::t) lF lA=xZ s t (qGu s x lF lA).1 (qGu s x lF lA).2:=by
 rw[xZ,qGu]; split <;> rfl
theorem qLi(s:Int)(x:Pt)(lF lA:List (List Nat)):(qGu s x lF lA).1.length=lF.length∧(qGu s x lF lA).2.length=lA.length:=by
 rw[qGu]; split
 ·exact⟨List.length_set,rfl⟩
 ·exact⟨rfl,List.length_set⟩
theorem qKq{c:Cir}{rows s:Int}{x:Pt}(hx:ptR c rows x){lF lA:List (List Nat)}(h1:lF.length=c.fx.toNat)(h2:lA.length=c.ad.toNat){kd:Int}(hk:kd=2∨kd=3)(co row:Nat):qAw (qGu s x lF lA).1 (qGu s x lF lA).2 kd co row=if kd=x.kd∧co=x.co.toNat∧row=(s+x.of).toNat then x.v else qAw lF lA kd co row:=by
 have c0:=hx.c0
 rw[qGu]
 rcases hx.k with ⟨k2,kc⟩ | ⟨k3,kc⟩
 ·rw[if_pos k2,qAw,qAw,k2]
  rcases hk with rfl | rfl
  ·rw[if_pos rfl,if_pos rfl,qBx _ _ _ _ (by omega)]
   by_cases hc:co=x.co.toNat
   ·rw[if_pos hc,qRu]
    by_cases hr:row=(s+x.of).toNat
    ·rw[if_pos hr,if_pos ⟨rfl,hc,hr⟩]
    ·rw[if_neg hr,if_neg (fun hh=>hr hh.2.2),hc]
   ·rw[if_neg hc,if_neg (fun hh=>hc hh.2.1)]
  ·rw[if_neg (by decide),if_neg (fun hh=>absurd hh.1 (by decide)),if_neg (by decide)]
 ·rw[if_neg (by omega),qAw,qAw,k3]
  rcases hk with rfl | rfl
  ·rw[if_pos rfl,if_neg (fun hh=>absurd hh.1 (by decide)),if_pos rfl]
  ·rw[if_neg (by decide),qBx _ _ _ _ (by omega)]
   by_cases hc:co=x.co.toNat
   ·rw[if_pos hc,qRu]
    by_cases hr:row=(s+x.of).toNat
    ·rw[if_pos hr,if_pos ⟨rfl,hc,hr⟩]
    ·rw[if_neg hr,if_neg (fun hh=>hr hh.2.2),if_neg (by decide),hc]
   ·rw[if_neg hc,if_neg (fun hh=>hc hh.2.1),if_neg (by decide)]
theorem zJr{c:Cir}{rows s:Int}{x:Pt}(hx:ptR c rows x){lF lA:List (List Nat)}(h1:lF.length=c.fx.toNat)(h2:lA.length=c.ad.toNat)(h:qAw lF lA x.kd x.co.toNat (s+x.of).toNat=0):nzT (qGu s x lF lA).1+nzT (qGu s x lF lA).2=nzT lF+nzT lA+nzV x.v:=by
 have c0:=hx.c0
 rw[qGu]
 rcases hx.k with ⟨k2,kc⟩ | ⟨k3,kc⟩
 ·rw[if_pos k2]
  rw[qAw,if_pos k2] at h
  have a:=qJt lF x.co.toNat (zO (gT lF x.co.toNat) (s+x.of).toNat x.v) (by omega)
  rw[qWh h] at a
  show nzT (lF.set _ _)+nzT lA=_
  omega
 ·rw[if_neg (by omega)]
  rw[qAw,if_neg (by omega)] at h
  have a:=qJt lA x.co.toNat (zO (gT lA x.co.toNat) (s+x.of).toNat x.v) (by omega)
  rw[qWh h] at a
  show nzT lF+nzT (lA.set _ _)=_
  omega
theorem qQx{c:Cir}{rows:Int}{x:Pt}(h:ptR c rows x):x.kd=2∨x.kd=3:=by
 rcases h.k with h | h
 ·exact .inl h.1
 ·exact .inr h.1
theorem qHt{c:Cir}{rows s:Int}:∀(ps:List Pt) (lF lA:List (List Nat)),(∀ x∈ps,ptR c rows x)→lF.length=c.fx.toNat→lA.length=c.ad.toNat→∀(kd:Int) (co row:Nat),kd=2∨kd=3→(∀ x∈ps,¬ (kd=x.kd∧co=x.co.toNat∧row=(s+x.of).toNat))→qAw (xZ s ps lF lA).1 (xZ s ps lF lA).2 kd co row=qAw lF lA kd co row
 | [],lF,lA,_,_,_,kd,co,row,_,_=>rfl
 | x::t,lF,lA,h,h1,h2,kd,co,row,hk,hn=>by
  have hl:=qLi s x lF lA
  rw[qNg,qHt t _ _ (fun y hy=>h y (List.mem_cons_of_mem x hy)) (by rw[hl.1,h1]) (by rw[hl.2,h2]) kd co row hk (fun y hy=>hn y (List.mem_cons_of_mem x hy)),qKq (h x List.mem_cons_self) h1 h2 hk,if_neg (hn x List.mem_cons_self)]
theorem zAg{c:Cir}{rows s:Int}(h0:0≤s){x y:Pt}(hx:ptR c rows x)(hy:ptR c rows y)(h:x.kd=y.kd∧x.co.toNat=y.co.toNat∧(s+x.of).toNat=(s+y.of).toNat):zIr x y:=by
 have a:=hx.c0
 have b:=hy.c0
 have d:=hx.o0
 have e:=hy.o0
 exact⟨h.1,by omega,by omega⟩
theorem qVg{c:Cir}{rows s:Int}(h0:0≤s):∀(ps:List Pt) (lF lA:List (List Nat)),(∀ x∈ps,ptR c rows x)→lF.length=c.fx.toNat→lA.length=c.ad.toNat→ps.Pairwise (fun a b=>¬ zIr a b)→∀ x∈ps,qAw (xZ s ps lF lA).1 (xZ s ps lF lA).2 x.kd x.co.toNat (s+x.of).toNat=x.v
 | [],_,_,_,_,_,_,x,hx=>by cases hx
 | y::t,lF,lA,h,h1,h2,hd,x,hx=>by
  have hl:=qLi s y lF lA
  have hy:=h y List.mem_cons_self
  have ht:=fun z hz=>h z (List.mem_cons_of_mem y hz)
  obtain⟨d1,d2⟩:=List.pairwise_cons.1 hd
  rw[qNg]
  rcases List.mem_cons.1 hx with rfl | hx
  ·rw[qHt t _ _ ht (by rw[hl.1,h1]) (by rw[hl.2,h2]) _ _ _ (qQx hy) (fun z hz hh=>d1 z hz (zAg h0 hy (ht z hz) hh)),qKq hy h1 h2 (qQx hy),if_pos ⟨rfl,rfl,rfl⟩]
  ·exact qVg h0 t _ _ ht (by rw[hl.1,h1]) (by rw[hl.2,h2]) d2 x hx
theorem zBt{c:Cir}{rows s:Int}(h0:0≤s):∀(ps:List Pt) (lF lA:List (List Nat)),(∀ x∈ps,ptR c rows x)→lF.length=c.fx.toNat→lA.length=c.ad.toNat→ps.Pairwise (fun a b=>¬ zIr a b)→(∀ x∈ps,qAw lF lA x.kd x.co.toNat (s+x.of).toNat=0)→nzT (xZ s ps lF lA).1+nzT (xZ s ps lF lA).2=nzT lF+nzT lA+nzP ps
 | [],_,_,_,_,_,_,_=>rfl
 | y::t,lF,lA,h,h1,h2,hd,hz=>by
  have hl:=qLi s y lF lA
  have hy:=h y List.mem_cons_self
  have ht:=fun z hz=>h z (List.mem_cons_of_mem y hz)
  obtain⟨d1,d2⟩:=List.pairwise_cons.1 hd
  have a:=zJr (s:=s) hy h1 h2 (hz y List.mem_cons_self)
  have b:=zBt h0 t (qGu s y lF lA).1 (qGu s y lF lA).2 ht (by rw[hl.1,h1]) (by rw[hl.2,h2]) d2 (fun x hx=>by
   rw[qKq hy h1 h2 (qQx (ht x hx)),if_neg (fun hh=>d1 x hx (zAg h0 hy (ht x hx) ⟨hh.1.symm,hh.2.1.symm,hh.2.2.symm⟩))]
   exact hz x (List.mem_cons_of_mem y hx))
  rw[qNg,b,nzP]
  omega
def zRe(p:Pln)(kd:Int)(co:Nat):Prop:=kd=2∧∃ t∈p.tb,t.1=(co:Int)
structure vaR (p : Pln) (kl : List (List Int)) (ml : List Int) (lF lA : List (List Nat)) (rs : List (Int × List Pt)) (z : List (List Nat) × List (List Nat) × List Int) (l : List Int) : Prop where
  val : ∀ i, i < rs.length → ∀ x ∈ (gRg rs i).2, qAw z.1 z.2.1 x.kd x.co.toNat (gI l i + x.of).toNat = x.v
  old : ∀ (kd : Int) (co row : Nat), kd = 2 ∨ kd = 3 → (qDl kl ml [kd, (co : Int)] row = true ∨ zRe p kd co) → qAw z.1 z.2.1 kd co row = qAw lF lA kd co row
  nz : nzT z.1 + nzT z.2.1 = nzT lF + nzT lA + nzR rs
theorem qPu{c:Cir}{p:Pln}{u:Int}(hu:u≤28):∀(rs:List (Int×List Pt)) (kl:List (List Int)) (ml:List Int) (lF lA:List (List Nat)) (ss:List Int) (z:List (List Nat)×List (List Nat)×List Int),xV u rs kl ml lF lA ss=some z→okM kl ml→(∀ r∈rs,rgR c r)→(∀ r∈rs,rgV p r.2)→lF.length=c.fx.toNat→lA.length=c.ad.toNat→(∀(kd:Int) (co row:Nat),kd=2∨kd=3→qAw lF lA kd co row≠0→qDl kl ml [kd,(co:Int)] row=true∨zRe p kd co)→∃ l,z.2.2=ss++l∧vaR p kl ml lF lA rs z l
 | [],kl,ml,lF,lA,ss,z,h,_,_,_,_,_,_=>by
  simp only[xV,sI] at h
  subst h
  exact⟨[],(List.append_nil _).symm,fun i hi=>absurd hi (Nat.not_lt_zero i),fun _ _ _ _ _=>rfl,rfl⟩
 | r::t,kl,ml,lF,lA,ss,z,h,hm,hr,hv,h1,h2,hF=>by
  rw[xV] at h
  have hr0:=hr r List.mem_cons_self
  have hv0:=hv r List.mem_cons_self
  have hw:=hr0.w
  cases hp:qDw kl ml r.1 u r.2 with
  | none=>rw[hp] at h; cases h
  | some s =>
   rw[hp] at h
   have hs:=qAx hp
   have hf:=qOw hp
   have er:((r.1.toNat:Nat):Int)=r.1:=Int.toNat_of_nonneg (by omega)
   have es:((s.toNat:Nat):Int)=s:=Int.toNat_of_nonneg hs.1
   have hmk:=qNb r.1.toNat s.toNat (by omega)
   have hmb:=qCt r.1.toNat s.toNat (by omega)
   rw[er,es] at hmk hmb
   obtain⟨m1,m2⟩:=qIk hmk r.2 kl ml hm
   have hl:=qDn s r.2 lF lA
   have eco:∀ x∈r.2,((x.co.toNat:Nat):Int)=x.co:=fun x hx=>Int.toNat_of_nonneg (hr0.x x hx).c0
   have ero:∀ x∈r.2,s.toNat≤(s+x.of).toNat∧(s+x.of).toNat<s.toNat+r.1.toNat:=fun x hx=>by
    have a:=(hr0.x x hx).o0
    have b:=(hr0.x x hx).o1
    omega
   have fr0:∀ x∈r.2,qDl kl ml [x.kd,x.co] (s+x.of).toNat=false:=by
    intro x hx
    have:=List.any_eq_false.1 hf x hx
    rw[Bool.not_eq_true,← er,← es,qZq hm _ _ (by omega)] at this
    exact this _ (ero x hx).1 (ero x hx).2
   have nt:∀ x∈r.2,¬ zRe p x.kd x.co.toNat:=by
    rintro x hx ⟨hk,t',ht',e⟩
    rw[eco x hx] at e
    exact hv0.t x hx hk t' ht' e
   have nw:∀ x∈r.2,qDl (xO (xB r.1 s) kl ml r.2).1 (xO (xB r.1 s) kl ml r.2).2 [x.kd,x.co] (s+x.of).toNat=true:=by
    intro x hx
    rw[m2,zBr hx rfl rfl,Bool.true_and,hmb,decide_eq_true (ero x hx),Bool.or_true]
   have mono:∀ y n,qDl kl ml y n=true→qDl (xO (xB r.1 s) kl ml r.2).1 (xO (xB r.1 s) kl ml r.2).2 y n=true:=by
    intro y n hh
    rw[m2,hh,Bool.true_or]
   have z0:∀ x∈r.2,qAw lF lA x.kd x.co.toNat (s+x.of).toNat=0:=by
    intro x hx
    apply Classical.byContradiction
    intro hne
    rcases hF _ _ _ (qQx (hr0.x x hx)) hne with hh | hh
    ·rw[eco x hx,fr0 x hx] at hh; cases hh
    ·exact nt x hx hh
   obtain⟨l,e1,a1,a2,a3⟩:=qPu hu t _ _ _ _ _ z h m1 (fun x hx=>hr x (List.mem_cons_of_mem r hx)) (fun x hx=>hv x (List.mem_cons_of_mem r hx)) (by rw[hl.1,h1]) (by rw[hl.2,h2]) (fun kd co row hk hne=>by
    by_cases hex:∃ x∈r.2,kd=x.kd∧co=x.co.toNat∧row=(s+x.of).toNat
    ·obtain⟨x,hx,rfl,rfl,rfl⟩:=hex
     rw[eco x hx]
     exact .inl (nw x hx)
    ·rw[qHt r.2 lF lA hr0.x h1 h2 kd co row hk (fun x hx hh=>hex ⟨x,hx,hh⟩)] at hne
     rcases hF kd co row hk hne with hh | hh
     ·exact .inl (mono _ _ hh)
     ·exact .inr hh)
   refine⟨s::l,by rw[e1,List.append_assoc]; rfl,fun i hi=>?_,fun kd co row hk hb=>?_,?_⟩
   ·match i with
    | 0 =>
     intro x hx
     show qAw z.1 z.2.1 x.kd x.co.toNat (s+x.of).toNat=x.v
     rw[a2 _ _ _ (qQx (hr0.x x hx)) (.inl (by rw[eco x hx]; exact nw x hx)),qVg hs.1 r.2 lF lA hr0.x h1 h2 hv0.d x hx]
    | i+1=>exact a1 i (Nat.lt_of_succ_lt_succ hi)
   ·rw[a2 kd co row hk (hb.imp (mono _ _) id),qHt r.2 lF lA hr0.x h1 h2 kd co row hk]
    rintro x hx ⟨rfl,rfl,rfl⟩
    rcases hb with hb | hb
    ·rw[eco x hx,fr0 x hx] at hb; cases hb
    ·exact nt x hx hb
   ·rw[a3,zBt hs.1 r.2 lF lA hr0.x h1 h2 hv0.d z0,nzR]
    omega
theorem qQm{fx:Int}{u:Int}:∀(ts:List (Int×List Nat)) (lF z:List (List Nat)),qAk u ts lF=some z→lF.length=fx.toNat→(∀ t∈ts,0≤t.1∧t.1<fx)→ts.Pairwise (fun a b=>a.1≠b.1)→(∀ t∈ts,gT lF t.1.toNat=[])→(∀ t∈ts,gT z t.1.toNat=t.2)∧(∀ q:Nat,(∀ t∈ts,t.1≠(q:Int))→gT z q=gT lF q)∧nzT z=nzT lF+nzB ts
 | [],lF,z,h,_,_,_,_=>by
  simp only[qAk,sI] at h
  subst h
  exact⟨fun t ht=>(by cases ht),fun q _=>rfl,rfl⟩
 | t::r,lF,z,h,h1,hR,hd,h0=>by
  rw[qAk] at h
  split at h
  ·cases h
  ·have ht:=hR t List.mem_cons_self
   have hr:=fun x hx=>hR x (List.mem_cons_of_mem t hx)
   obtain⟨d1,d2⟩:=List.pairwise_cons.1 hd
   have hlt:t.1.toNat<lF.length:=by omega
   obtain⟨a1,a2,a3⟩:=qQm (fx:=fx) r _ z h (by rw[List.length_set,h1]) hr d2 (fun x hx=>by
    have:=hr x hx
    have:=d1 x hx
    rw[qBx _ _ _ _ hlt,if_neg (by omega)]
    exact h0 x (List.mem_cons_of_mem t hx))
   refine⟨fun x hx=>?_,fun q hq=>?_,?_⟩
   ·rcases List.mem_cons.1 hx with rfl | hx
    ·rw[a2 x.1.toNat (fun y hy=>by have:=d1 y hy; have:=hr y hy; omega),qBx _ _ _ _ hlt,if_pos rfl]
    ·exact a1 x hx
   ·rw[a2 q (fun y hy=>hq y (List.mem_cons_of_mem t hy)),qBx _ _ _ _ hlt,if_neg (by have:=hq t List.mem_cons_self; omega)]
   ·have e:=qJt lF t.1.toNat t.2 hlt
    rw[h0 t List.mem_cons_self] at e
    have e0:nzL []=0:=rfl
    rw[a3,nzB]
    omega
theorem qTj{z:List (List Nat)×List (List Nat)×List Int}{is:List (List Nat)}{cp:List (Int×Int×Int×Int)}{kd co ro:Int}(hk:kd=2∨kd=3)(hc:0≤co)(hr:0≤ro):atS ⟨z.1,z.2.1,is,cp⟩ kd co ro=qAw z.1 z.2.1 kd co.toNat ro.toNat:=by
 rw[atS,atT,if_neg (by omega),qAw,qVw]
 rcases hk with rfl | rfl
 ·rw[if_pos rfl,if_pos rfl]
 ·rw[if_neg (by decide),if_pos rfl,if_neg (by decide)]
structure zXr (c : Cir) (k : Int) (p : Pln) : Prop where
  put : ∀ i, i < p.rg.length → ∀ x ∈ (gRg p.rg i).2, atS (qS c k p).1.1 x.kd x.co (gI (qS c k p).1.2 i + x.of) = x.v
  tab : ∀ t ∈ p.tb, ∀ j : Nat, atS (qS c k p).1.1 2 t.1 (j : Int) = gE t.2 j
  nz : nzT (qS c k p).1.1.fx + nzT (qS c k p).1.1.ad = nzR p.rg + nzB p.tb
  is : (qS c k p).1.1.is = p.is
  cp : (qS c k p).1.1.cp.length = p.lk.length
theorem zCt{c:Cir}{k:Int}{p:Pln}(h:(qS c k p).2=0):zXr c k p:=by
 have ap:=qDc h
 obtain⟨lF,z,h0,e1,e2⟩:=qEk h
 have I:=qKn h0
 obtain⟨_,_,_,a4⟩:=qHz h0
 obtain⟨v1,v2⟩:=qXy a4
 rw[qAi h0 e1 e2] at ap
 have l1:=qHk _ _ _ e1
 rw[List.length_replicate] at l1
 obtain⟨t1,t2,t3⟩:=qQm (fx:=c.fx) _ _ _ e1 (List.length_replicate) I.pr.t v1 (fun t _=>qIh _ _)
 obtain⟨l,e3,w1,w2,w3⟩:=qPu (p:=p) I.us.2 _ _ _ _ _ _ _ e2 qZx I.pr.r v2 l1 (List.length_replicate) (fun kd co row hk hne=>by
  rw[qAw] at hne
  by_cases hk2:kd=2
  ·rw[if_pos hk2] at hne
   refine .inr ⟨hk2,?_⟩
   apply Classical.byContradiction
   intro hno
   rw[t2 co (fun t ht e=>hno ⟨t,ht,e⟩),qIh] at hne
   exact hne rfl
  ·rw[if_neg hk2,qIh] at hne
   exact absurd rfl hne)
 have e3':z.2.2=l:=e3
 rw[zBp] at t3 w3
 refine⟨fun i hi x hx=>?_,fun t ht j=>?_,?_,?_,?_⟩
 ·rw[qAi h0 e1 e2]
  have hx':=(I.pr.r _ (xK hi)).x x hx
  have hg:=ap.rng i hi
  have o0:=hx'.o0
  show atS ⟨z.1,z.2.1,p.is,wG z.2.2 p.lk⟩ x.kd x.co (gI z.2.2 i+x.of)=x.v
  rw[qTj (qQx hx') hx'.c0 (by have:0≤gI z.2.2 i:=hg.1; omega),e3']
  exact w1 i hi x hx
 ·rw[qAi h0 e1 e2]
  have ht':=I.pr.t t ht
  show atS ⟨z.1,z.2.1,p.is,wG z.2.2 p.lk⟩ 2 t.1 (j:Int)=_
  rw[qTj (.inl rfl) ht'.1 (by omega),w2 2 t.1.toNat (j:Int).toNat (.inl rfl) (.inr ⟨rfl,t,ht,by omega⟩),qAw,if_pos rfl,t1 t ht,Int.toNat_natCast]
 ·rw[qAi h0 e1 e2]
  show nzT z.1+nzT z.2.1=_
  rw[w3,t3]; omega
 ·rw[qAi h0 e1 e2]
 ·rw[qAi h0 e1 e2]
  show(wG z.2.2 p.lk).length=_
  rw[wG,List.length_map]
end Go.Pl
namespace Go.Proofs.Ytlmjdcbhpffanaa
open Go.Sx Go.Pl
set_option linter.unusedVariables false
set_option maxRecDepth 100000
end Go.Proofs.Ytlmjdcbhpffanaa
/- Tables of the same contents. -/
namespace Go.Proofs.Ytlmjdcbhpffanaa
open Go.Sx Go.Pl
set_option linter.unusedVariables false
set_option maxRecDepth 100000
theorem zXy(l l2:List (List Nat))(K:List It→St→Prop)(R:SV→List HO→Prop):W (xwp Try.prog X zPu [] 60 (qO Try.f19 [] [⟨[0,1,0,1,1],[5,0,1],[]⟩]) [] [.at []] ⟨qQ 0 [.x 0 [],.x 1 []],[.ext false (.s false 1 l.length (cT l)),.ext false (.s false 1 l2.length (cT l2))]⟩ K R)=W (bif !(↑l.length:Int)==(↑l2.length:Int) then R (.v (.bool false)) [] else K [.at [0,1,0,1,1],.blk 0,.at [1,1,1]] (St.mk [(5,.v (qA 0)),(0,.x 0 []),(1,.x 1 [])] [.ext false (.s false 1 l.length (cT l)),.ext false (.s false 1 l2.length (cT l2))])):=by kernel_rfl
theorem zVz(l l2:List (List Nat))(k M:Nat)(K:List It→St→Prop)(R:SV→List HO→Prop):W (xwp Try.prog X zPu [] 60 (qO Try.f19 [] [⟨[0,1,0,1,1],[5,0,1],[]⟩]) [] (.at [0,0,1,0,1,1]::.rnd [0,0,1,0,1,1] M::[.blk 0,.at [1,1,1]]) ⟨[(5,.v (.int .i64 (k:Int))),(0,.x 0 []),(1,.x 1 [])],[.ext false (.s false 1 l.length (cT l)),.ext false (.s false 1 l2.length (cT l2))]⟩ K R)=W (bif decide ((↑k:Int)<(↑l.length:Int)) then(∀ M:Mem,(0:Int)≤(↑k:Int)∧(↑k:Int)<(↑l.length:Int))∧(∀ M:Mem,k<List.length l)∧(∀ M:Mem,(0:Int)≤(↑k:Int)∧(↑k:Int)<(↑l2.length:Int))∧(∀ M:Mem,k<List.length l2)∧(∀ M:Mem,k<List.length l)∧(∀ M:Mem,k<List.length l2)∧lE2 (List.length (gT l k)) (List.length (gT l2 k)) (cE (gT l k)) (cE (gT l2 k)) fun(l_1 l2_1:List Nat)=>bif !decide (l_1=l2_1) then R (.v (.bool false)) [] else K [.rnd [0,0,1,0,1,1] M,.blk 0,.at [1,1,1]] (St.mk [(5,.v (qA (IntKind.wrap .i64 ((↑k:Int)+(1:Int))))),(0,.x 0 []),(1,.x 1 [])] [.ext false (.s false 1 l.length (cT l)),.ext false (.s false 1 l2.length (cT l2))]) else R (.v (.bool true)) []):=by kernel_rfl
theorem qVt(l:List (List Nat))(hl:okT l)(Q:SV→List HO→Prop)(hq:Q (.v (.bool true)) []):∀(d k:Nat),k+d=l.length →
  FOk Try.prog Try.f19 Q (.rnd [0,0,1,0,1,1] (d+1)::[.blk 0,.at [1,1,1]]) ⟨[(5,.v (.int .i64 (k:Int))),(0,.x 0 []),(1,.x 1 [])],[.ext false (.s false 1 l.length (cT l)),.ext false (.s false 1 l.length (cT l))]⟩
 | 0,k,hd=>by
  refine FOk.rnd (qE hm 60 ((zVz l l k 0 _ _).mpr ⟨?_⟩))
  rw[qF,if_neg (by omega)]
  exact hq
 | d+1,k,hd=>by
  have hk:k<l.length:=by omega
  have h1:=hl.2
  obtain⟨g0,g1⟩:=hl.1 _ (qBt hk)
  refine FOk.rnd (qE hm 60 ((zVz l l k (d+1) _ _).mpr ⟨?_⟩))
  rw[qF,if_pos (by omega),qN _ (by omega)]
  repeat' (refine And.intro (fun _=>by omega) ?_)
  refine⟨⟨_,_,rfl,IsC.refl _ _ _,rfl,IsC.refl _ _ _,by omega,g0,g0,?_⟩⟩
  rw[decide_eq_true rfl]
  exact qVt l hl Q hq d (k+1) (by omega)
theorem zZg:Try.f19.body.isSome=true:=by kernel_rfl
theorem zXu:Nat.ble [SV.x 0 [],.x 1 []].length Try.f19.ntmps=true:=by kernel_rfl
theorem zPs(l:List (List Nat))(hl:okT l)(Q:SV→List HO→Prop)(hq:Q (.v (.bool true)) []):qI Try.prog 19 [.x 0 [],.x 1 []] [.ext false (.s false 1 l.length (cT l)),.ext false (.s false 1 l.length (cT l))] Q:=by
 refine qJ Try.func19 zZg ?_ ?_
 ·exact zXu
 refine qE hm 60 ((zXy l l _ _).mpr ⟨?_⟩)
 simp only[beq_self_eq_true,Bool.not_true,cond_false]
 exact FOk.loop (l.length+1) (by kernel_rfl) (qVt l hl Q hq l.length 0 (by omega))
noncomputable def zOo:List SV→List HO→Option ((SV→List HO→Prop)→Prop)
 | [.x 0 [],.x 1 []],[.ext false (.s false 1 n c),.ext false (.s false 1 m d)]=>some fun Q=>lT n c fun l=>lT m d fun l2=>l2=l∧Q (.v (.bool true)) []
 | _,_=>none
theorem zHw(args:List SV)(h:List HO)(tr:(SV→List HO→Prop)→Prop)(Q:SV→List HO→Prop)(hc:zOo args h=some tr)(ht:tr Q):qI Try.prog 19 args h Q:=by
 unfold zOo at hc
 split at hc
 ·simp only[sI] at hc
  subst hc
  obtain⟨l,rfl,e0,hl,ht2⟩:=ht.h
  obtain⟨l2,rfl,e1,hl2,rfl,hq⟩:=ht2.h
  exact qI.ac (zPs _ hl Q hq) ⟨⟨rfl,rfl,rfl,rfl,e0⟩,⟨rfl,rfl,rfl,rfl,e1⟩,trivial⟩
 ·cases hc
noncomputable def qRt:Con Try.prog:=zPu.add 19 zOo zHw
end Go.Proofs.Ytlmjdcbhpffanaa
