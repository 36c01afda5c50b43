/- The texts Z148 .. Z126 of this proof, one behind the other. -/
import Derived.Test.YtlmjdcbhpffanaaGreatM4
import Derived.Test.YtlmjdcbhpffanaaGreatM3
import Derived.Test.YtlmjdcbhpffanaaGreatM2
import Derived.Test.YtlmjdcbhpffanaaGreatM1
/- The document: a plan laid out. -/
namespace Go.Proofs.YtlmjdcbhpffanaaGreat
open Go.Sx Go.Pl
set_option linter.unusedVariables false
set_option maxRecDepth 100000
theorem zXj(c:Cir)(p:Pln)(k:Int)(K:List It→St→Prop)(R:SV→List HO→Prop):W (xwp Tryz.prog X (qUf.add 34 qMz qAy) [(49,[])] 60 (qO Tryz.f13 [] [⟨[0,1,0,1,1,1,1,1],[12,11,10,6,5],[]⟩,⟨[0,1,0,1,1,1,1,1,1,1],[14,13,11,10,6,5],[]⟩,⟨[0,0,1,1,0,0,1,0,0,1,0,1,1,1,1,1,1,1],[16,15,14,13,11,10,6,5],[]⟩,⟨[0,1,0,1,1,0,0,0,0,1,1,0,0,1,0,0,1,0,1,1,1,1,1,1,1],[18,17,16,15,14,13,11,10,6,5],[]⟩,⟨[0,1,1,1,1,1,0,0,1,0,0,1,0,1,1,1,1,1,1,1],[19,16,15,14,13,11,10,6,5],[]⟩,⟨[0,1,0,1,1,1,1,1,1,1,1],[21,13,11,6,5],[]⟩]) [] [.at []] ⟨qQ 0 [.agg [.v (.int .i64 c.fx),.v (.int .i64 c.ad),.v (.int .i64 c.ins),.x 0 [],.x 1 [],.x 2 [],.x 3 []],.v (.int .i64 k),.agg [.x 4 [],.x 5 [],.x 6 [],.x 7 []]],[.ext false (.s false 7 c.4.length (cN c.4)),.ext false (.s false 1 c.5.length (cI c.5)),.ext false (.s false 2 c.6.length (cL c.6)),.ext false (.s false 2 c.7.length (cK c.7)),.ext false (.s false 2 p.1.length (cRg p.1)),.ext false (.s false 2 p.2.length (cTa p.2)),.ext false (.s false 6 p.3.length (cLk p.3)),.ext false (.s false 1 p.4.length (cT p.4))]⟩ K R)=W (lSh c.1 c.2 c.3 c.4.length c.5.length c.6.length c.7.length p.1.length p.2.length p.3.length p.4.length (cN c.4) (cI c.5) (cL c.6) (cK c.7) (cRg p.1) (cTa p.2) (cLk p.3) (cT p.4) fun(c_1:Cir) (p_1:Pln)=>bif !yT c_1 k p_1==(0:Int) then(∀ M:Mem,4≤4)∧R (.tup [.agg [.v (Value.slice none 0 0),.v (Value.slice none 0 0),.v (Value.slice none 0 0),.v (Value.slice none 0 0)],.v (Value.slice none 0 0),.v (qA (yT c_1 k p_1))]) [] else((∀ M:Mem,(0:Int)≤c.1∧c.1≤c.1∧(24:Int)*c.1≤(281474976710656:Int)∧c.1≤(9223372036854775807:Int))∧(∀ M:Mem,(0:Int)≤c.2∧c.2≤c.2∧(24:Int)*c.2≤(281474976710656:Int)∧c.2≤(9223372036854775807:Int))∧lT p.4.length (cT p.4) fun(l:List (List Nat))=>(∀ M:Mem,0+4≤4)∧K [.at [0,1,0,1,1,1,1,1],.blk 0,.at [1,1,1,1,1,1]] (St.mk [(12,.v (qA 0)),(11,.p 0 0),(10,.v (qA (usN k))),(6,.p 1 0),(5,.p 2 0)] [.cells [.o 3,.o 4,.x 5 [],.v (Value.slice none 0 0)] 42,.cells [.v (Value.slice none 0 0),.v (Value.slice none 0 0),.v (Value.slice none 0 0),.v (Value.slice none 0 0)] 42,.cells [.x 6 [],.x 7 [],.x 8 [],.x 9 []] 33,.rowc 67 1 (Int.toNat c.1) (Ct.zero [Value.slice none 0 0]),.rowc 67 1 (Int.toNat c.2) (Ct.zero [Value.slice none 0 0]),.ext false (.s false 1 l.length (cT l)),.ext false (.s false 2 p.1.length (cRg p.1)),.ext false (.s false 2 p.2.length (cTa p.2)),.ext false (.s false 6 p.3.length (cLk p.3)),.ext false (.s false 1 p.4.length (cT p.4))]))∧((∀ M:Mem,(0:Int)≤c.1∧c.1≤c.1∧(24:Int)*c.1≤(281474976710656:Int)∧c.1≤(9223372036854775807:Int))∧(∀ M:Mem,(0:Int)≤c.2∧c.2≤c.2∧(24:Int)*c.2≤(281474976710656:Int)∧c.2≤(9223372036854775807:Int))∧lT p.4.length (cT p.4) fun(l:List (List Nat))=>(∀ M:Mem,0+4≤4)∧K [.at [0,1,0,1,1,1,1,1],.blk 0,.at [1,1,1,1,1,1]] (St.mk [(12,.v (qA 0)),(11,.p 0 0),(10,.v (qA (usN k))),(6,.p 1 0),(5,.p 2 0)] [.cells [.o 3,.o 4,.x 5 [],.v (Value.slice none 0 0)] 42,.cells [.v (Value.slice none 0 0),.v (Value.slice none 0 0),.v (Value.slice none 0 0),.v (Value.slice none 0 0)] 42,.cells [.x 6 [],.x 7 [],.x 8 [],.x 9 []] 33,.rowc 67 1 (Int.toNat c.1) (Ct.zero [Value.slice none 0 0]),.rowc 67 1 (Int.toNat c.2) (Ct.zero [Value.slice none 0 0]),.ext false (.s false 1 l.length (cT l)),.ext false (.s false 2 p.1.length (cRg p.1)),.ext false (.s false 2 p.2.length (cTa p.2)),.ext false (.s false 6 p.3.length (cLk p.3)),.ext false (.s false 1 p.4.length (cT p.4))]))∧((∀ M:Mem,(0:Int)≤c.1∧c.1≤c.1∧(24:Int)*c.1≤(281474976710656:Int)∧c.1≤(9223372036854775807:Int))∧lT p.4.length (cT p.4) fun(l:List (List Nat))=>((∀ M:Mem,(0:Int)≤c.2∧c.2≤c.2∧(24:Int)*c.2≤(281474976710656:Int)∧c.2≤(9223372036854775807:Int))∧(∀ M:Mem,0+4≤4)∧K [.at [0,1,0,1,1,1,1,1],.blk 0,.at [1,1,1,1,1,1]] (St.mk [(12,.v (qA 0)),(11,.p 0 0),(10,.v (qA (usN k))),(6,.p 1 0),(5,.p 2 0)] [.cells [.o 3,.o 4,.x 5 [],.v (Value.slice none 0 0)] 42,.cells [.v (Value.slice none 0 0),.v (Value.slice none 0 0),.v (Value.slice none 0 0),.v (Value.slice none 0 0)] 42,.cells [.x 6 [],.x 7 [],.x 8 [],.x 9 []] 33,.rowc 67 1 (Int.toNat c.1) (Ct.zero [Value.slice none 0 0]),.rowc 67 1 (Int.toNat c.2) (Ct.zero [Value.slice none 0 0]),.ext false (.s false 1 l.length (cT l)),.ext false (.s false 2 p.1.length (cRg p.1)),.ext false (.s false 2 p.2.length (cTa p.2)),.ext false (.s false 6 p.3.length (cLk p.3)),.ext false (.s false 1 p.4.length (cT p.4))]))∧(∀ M:Mem,(0:Int)≤c.2∧c.2≤c.2∧(24:Int)*c.2≤(281474976710656:Int)∧c.2≤(9223372036854775807:Int))∧(∀ M:Mem,0+4≤4)∧K [.at [0,1,0,1,1,1,1,1],.blk 0,.at [1,1,1,1,1,1]] (St.mk [(12,.v (qA 0)),(11,.p 0 0),(10,.v (qA (usN k))),(6,.p 1 0),(5,.p 2 0)] [.cells [.o 3,.o 4,.x 5 [],.v (Value.slice none 0 0)] 42,.cells [.v (Value.slice none 0 0),.v (Value.slice none 0 0),.v (Value.slice none 0 0),.v (Value.slice none 0 0)] 42,.cells [.x 6 [],.x 7 [],.x 8 [],.x 9 []] 33,.rowc 67 1 (Int.toNat c.1) (Ct.zero [Value.slice none 0 0]),.rowc 67 1 (Int.toNat c.2) (Ct.zero [Value.slice none 0 0]),.ext false (.s false 1 l.length (cT l)),.ext false (.s false 2 p.1.length (cRg p.1)),.ext false (.s false 2 p.2.length (cTa p.2)),.ext false (.s false 6 p.3.length (cLk p.3)),.ext false (.s false 1 p.4.length (cT p.4))]))∧((∀ M:Mem,(0:Int)≤c.1∧c.1≤c.1∧(24:Int)*c.1≤(281474976710656:Int)∧c.1≤(9223372036854775807:Int))∧(∀ M:Mem,(0:Int)≤c.2∧c.2≤c.2∧(24:Int)*c.2≤(281474976710656:Int)∧c.2≤(9223372036854775807:Int))∧lT p.4.length (cT p.4) fun(l:List (List Nat))=>(∀ M:Mem,0+4≤4)∧K [.at [0,1,0,1,1,1,1,1],.blk 0,.at [1,1,1,1,1,1]] (St.mk [(12,.v (qA 0)),(11,.p 0 0),(10,.v (qA (usN k))),(6,.p 1 0),(5,.p 2 0)] [.cells [.o 3,.o 4,.x 5 [],.v (Value.slice none 0 0)] 42,.cells [.v (Value.slice none 0 0),.v (Value.slice none 0 0),.v (Value.slice none 0 0),.v (Value.slice none 0 0)] 42,.cells [.x 6 [],.x 7 [],.x 8 [],.x 9 []] 33,.rowc 67 1 (Int.toNat c.1) (Ct.zero [Value.slice none 0 0]),.rowc 67 1 (Int.toNat c.2) (Ct.zero [Value.slice none 0 0]),.ext false (.s false 1 l.length (cT l)),.ext false (.s false 2 p.1.length (cRg p.1)),.ext false (.s false 2 p.2.length (cTa p.2)),.ext false (.s false 6 p.3.length (cLk p.3)),.ext false (.s false 1 p.4.length (cT p.4))]))∧((∀ M:Mem,(0:Int)≤c.1∧c.1≤c.1∧(24:Int)*c.1≤(281474976710656:Int)∧c.1≤(9223372036854775807:Int))∧lT p.4.length (cT p.4) fun(l:List (List Nat))=>(∀ M:Mem,(0:Int)≤c.2∧c.2≤c.2∧(24:Int)*c.2≤(281474976710656:Int)∧c.2≤(9223372036854775807:Int))∧(∀ M:Mem,0+4≤4)∧K [.at [0,1,0,1,1,1,1,1],.blk 0,.at [1,1,1,1,1,1]] (St.mk [(12,.v (qA 0)),(11,.p 0 0),(10,.v (qA (usN k))),(6,.p 1 0),(5,.p 2 0)] [.cells [.o 3,.o 4,.x 5 [],.v (Value.slice none 0 0)] 42,.cells [.v (Value.slice none 0 0),.v (Value.slice none 0 0),.v (Value.slice none 0 0),.v (Value.slice none 0 0)] 42,.cells [.x 6 [],.x 7 [],.x 8 [],.x 9 []] 33,.rowc 67 1 (Int.toNat c.1) (Ct.zero [Value.slice none 0 0]),.rowc 67 1 (Int.toNat c.2) (Ct.zero [Value.slice none 0 0]),.ext false (.s false 1 l.length (cT l)),.ext false (.s false 2 p.1.length (cRg p.1)),.ext false (.s false 2 p.2.length (cTa p.2)),.ext false (.s false 6 p.3.length (cLk p.3)),.ext false (.s false 1 p.4.length (cT p.4))]))∧((∀ M:Mem,(0:Int)≤c.2∧c.2≤c.2∧(24:Int)*c.2≤(281474976710656:Int)∧c.2≤(9223372036854775807:Int))∧(∀ M:Mem,(0:Int)≤c.1∧c.1≤c.1∧(24:Int)*c.1≤(281474976710656:Int)∧c.1≤(9223372036854775807:Int))∧lT p.4.length (cT p.4) fun(l:List (List Nat))=>(∀ M:Mem,0+4≤4)∧K [.at [0,1,0,1,1,1,1,1],.blk 0,.at [1,1,1,1,1,1]] (St.mk [(12,.v (qA 0)),(11,.p 0 0),(10,.v (qA (usN k))),(6,.p 1 0),(5,.p 2 0)] [.cells [.o 3,.o 4,.x 5 [],.v (Value.slice none 0 0)] 42,.cells [.v (Value.slice none 0 0),.v (Value.slice none 0 0),.v (Value.slice none 0 0),.v (Value.slice none 0 0)] 42,.cells [.x 6 [],.x 7 [],.x 8 [],.x 9 []] 33,.rowc 67 1 (Int.toNat c.1) (Ct.zero [Value.slice none 0 0]),.rowc 67 1 (Int.toNat c.2) (Ct.zero [Value.slice none 0 0]),.ext false (.s false 1 l.length (cT l)),.ext false (.s false 2 p.1.length (cRg p.1)),.ext false (.s false 2 p.2.length (cTa p.2)),.ext false (.s false 6 p.3.length (cLk p.3)),.ext false (.s false 1 p.4.length (cT p.4))]))∧((∀ M:Mem,(0:Int)≤c.2∧c.2≤c.2∧(24:Int)*c.2≤(281474976710656:Int)∧c.2≤(9223372036854775807:Int))∧(∀ M:Mem,(0:Int)≤c.1∧c.1≤c.1∧(24:Int)*c.1≤(281474976710656:Int)∧c.1≤(9223372036854775807:Int))∧lT p.4.length (cT p.4) fun(l:List (List Nat))=>(∀ M:Mem,0+4≤4)∧K [.at [0,1,0,1,1,1,1,1],.blk 0,.at [1,1,1,1,1,1]] (St.mk [(12,.v (qA 0)),(11,.p 0 0),(10,.v (qA (usN k))),(6,.p 1 0),(5,.p 2 0)] [.cells [.o 3,.o 4,.x 5 [],.v (Value.slice none 0 0)] 42,.cells [.v (Value.slice none 0 0),.v (Value.slice none 0 0),.v (Value.slice none 0 0),.v (Value.slice none 0 0)] 42,.cells [.x 6 [],.x 7 [],.x 8 [],.x 9 []] 33,.rowc 67 1 (Int.toNat c.1) (Ct.zero [Value.slice none 0 0]),.rowc 67 1 (Int.toNat c.2) (Ct.zero [Value.slice none 0 0]),.ext false (.s false 1 l.length (cT l)),.ext false (.s false 2 p.1.length (cRg p.1)),.ext false (.s false 2 p.2.length (cTa p.2)),.ext false (.s false 6 p.3.length (cLk p.3)),.ext false (.s false 1 p.4.length (cT p.4))]))∧((∀ M:Mem,(0:Int)≤c.2∧c.2≤c.2∧(24:Int)*c.2≤(281474976710656:Int)∧c.2≤(9223372036854775807:Int))∧lT p.4.length (cT p.4) fun(l:List (List Nat))=>((∀ M:Mem,(0:Int)≤c.1∧c.1≤c.1∧(24:Int)*c.1≤(281474976710656:Int)∧c.1≤(9223372036854775807:Int))∧(∀ M:Mem,0+4≤4)∧K [.at [0,1,0,1,1,1,1,1],.blk 0,.at [1,1,1,1,1,1]] (St.mk [(12,.v (qA 0)),(11,.p 0 0),(10,.v (qA (usN k))),(6,.p 1 0),(5,.p 2 0)] [.cells [.o 3,.o 4,.x 5 [],.v (Value.slice none 0 0)] 42,.cells [.v (Value.slice none 0 0),.v (Value.slice none 0 0),.v (Value.slice none 0 0),.v (Value.slice none 0 0)] 42,.cells [.x 6 [],.x 7 [],.x 8 [],.x 9 []] 33,.rowc 67 1 (Int.toNat c.1) (Ct.zero [Value.slice none 0 0]),.rowc 67 1 (Int.toNat c.2) (Ct.zero [Value.slice none 0 0]),.ext false (.s false 1 l.length (cT l)),.ext false (.s false 2 p.1.length (cRg p.1)),.ext false (.s false 2 p.2.length (cTa p.2)),.ext false (.s false 6 p.3.length (cLk p.3)),.ext false (.s false 1 p.4.length (cT p.4))]))∧(∀ M:Mem,(0:Int)≤c.1∧c.1≤c.1∧(24:Int)*c.1≤(281474976710656:Int)∧c.1≤(9223372036854775807:Int))∧(∀ M:Mem,0+4≤4)∧K [.at [0,1,0,1,1,1,1,1],.blk 0,.at [1,1,1,1,1,1]] (St.mk [(12,.v (qA 0)),(11,.p 0 0),(10,.v (qA (usN k))),(6,.p 1 0),(5,.p 2 0)] [.cells [.o 3,.o 4,.x 5 [],.v (Value.slice none 0 0)] 42,.cells [.v (Value.slice none 0 0),.v (Value.slice none 0 0),.v (Value.slice none 0 0),.v (Value.slice none 0 0)] 42,.cells [.x 6 [],.x 7 [],.x 8 [],.x 9 []] 33,.rowc 67 1 (Int.toNat c.1) (Ct.zero [Value.slice none 0 0]),.rowc 67 1 (Int.toNat c.2) (Ct.zero [Value.slice none 0 0]),.ext false (.s false 1 l.length (cT l)),.ext false (.s false 2 p.1.length (cRg p.1)),.ext false (.s false 2 p.2.length (cTa p.2)),.ext false (.s false 6 p.3.length (cLk p.3)),.ext false (.s false 1 p.4.length (cT p.4))]))∧((∀ M:Mem,(0:Int)≤c.2∧c.2≤c.2∧(24:Int)*c.2≤(281474976710656:Int)∧c.2≤(9223372036854775807:Int))∧(∀ M:Mem,(0:Int)≤c.1∧c.1≤c.1∧(24:Int)*c.1≤(281474976710656:Int)∧c.1≤(9223372036854775807:Int))∧lT p.4.length (cT p.4) fun(l:List (List Nat))=>(∀ M:Mem,0+4≤4)∧K [.at [0,1,0,1,1,1,1,1],.blk 0,.at [1,1,1,1,1,1]] (St.mk [(12,.v (qA 0)),(11,.p 0 0),(10,.v (qA (usN k))),(6,.p 1 0),(5,.p 2 0)] [.cells [.o 3,.o 4,.x 5 [],.v (Value.slice none 0 0)] 42,.cells [.v (Value.slice none 0 0),.v (Value.slice none 0 0),.v (Value.slice none 0 0),.v (Value.slice none 0 0)] 42,.cells [.x 6 [],.x 7 [],.x 8 [],.x 9 []] 33,.rowc 67 1 (Int.toNat c.1) (Ct.zero [Value.slice none 0 0]),.rowc 67 1 (Int.toNat c.2) (Ct.zero [Value.slice none 0 0]),.ext false (.s false 1 l.length (cT l)),.ext false (.s false 2 p.1.length (cRg p.1)),.ext false (.s false 2 p.2.length (cTa p.2)),.ext false (.s false 6 p.3.length (cLk p.3)),.ext false (.s false 1 p.4.length (cT p.4))]))∧((∀ M:Mem,(0:Int)≤c.2∧c.2≤c.2∧(24:Int)*c.2≤(281474976710656:Int)∧c.2≤(9223372036854775807:Int))∧lT p.4.length (cT p.4) fun(l:List (List Nat))=>(∀ M:Mem,(0:Int)≤c.1∧c.1≤c.1∧(24:Int)*c.1≤(281474976710656:Int)∧c.1≤(9223372036854775807:Int))∧(∀ M:Mem,0+4≤4)∧K [.at [0,1,0,1,1,1,1,1],.blk 0,.at [1,1,1,1,1,1]] (St.mk [(12,.v (qA 0)),(11,.p 0 0),(10,.v (qA (usN k))),(6,.p 1 0),(5,.p 2 0)] [.cells [.o 3,.o 4,.x 5 [],.v (Value.slice none 0 0)] 42,.cells [.v (Value.slice none 0 0),.v (Value.slice none 0 0),.v (Value.slice none 0 0),.v (Value.slice none 0 0)] 42,.cells [.x 6 [],.x 7 [],.x 8 [],.x 9 []] 33,.rowc 67 1 (Int.toNat c.1) (Ct.zero [Value.slice none 0 0]),.rowc 67 1 (Int.toNat c.2) (Ct.zero [Value.slice none 0 0]),.ext false (.s false 1 l.length (cT l)),.ext false (.s false 2 p.1.length (cRg p.1)),.ext false (.s false 2 p.2.length (cTa p.2)),.ext false (.s false 6 p.3.length (cLk p.3)),.ext false (.s false 1 p.4.length (cT p.4))]))∧(lT p.4.length (cT p.4) fun(l:List (List Nat))=>((∀ M:Mem,(0:Int)≤c.1∧c.1≤c.1∧(24:Int)*c.1≤(281474976710656:Int)∧c.1≤(9223372036854775807:Int))∧(∀ M:Mem,(0:Int)≤c.2∧c.2≤c.2∧(24:Int)*c.2≤(281474976710656:Int)∧c.2≤(9223372036854775807:Int))∧(∀ M:Mem,0+4≤4)∧K [.at [0,1,0,1,1,1,1,1],.blk 0,.at [1,1,1,1,1,1]] (St.mk [(12,.v (qA 0)),(11,.p 0 0),(10,.v (qA (usN k))),(6,.p 1 0),(5,.p 2 0)] [.cells [.o 3,.o 4,.x 5 [],.v (Value.slice none 0 0)] 42,.cells [.v (Value.slice none 0 0),.v (Value.slice none 0 0),.v (Value.slice none 0 0),.v (Value.slice none 0 0)] 42,.cells [.x 6 [],.x 7 [],.x 8 [],.x 9 []] 33,.rowc 67 1 (Int.toNat c.1) (Ct.zero [Value.slice none 0 0]),.rowc 67 1 (Int.toNat c.2) (Ct.zero [Value.slice none 0 0]),.ext false (.s false 1 l.length (cT l)),.ext false (.s false 2 p.1.length (cRg p.1)),.ext false (.s false 2 p.2.length (cTa p.2)),.ext false (.s false 6 p.3.length (cLk p.3)),.ext false (.s false 1 p.4.length (cT p.4))]))∧((∀ M:Mem,(0:Int)≤c.1∧c.1≤c.1∧(24:Int)*c.1≤(281474976710656:Int)∧c.1≤(9223372036854775807:Int))∧(∀ M:Mem,(0:Int)≤c.2∧c.2≤c.2∧(24:Int)*c.2≤(281474976710656:Int)∧c.2≤(9223372036854775807:Int))∧(∀ M:Mem,0+4≤4)∧K [.at [0,1,0,1,1,1,1,1],.blk 0,.at [1,1,1,1,1,1]] (St.mk [(12,.v (qA 0)),(11,.p 0 0),(10,.v (qA (usN k))),(6,.p 1 0),(5,.p 2 0)] [.cells [.o 3,.o 4,.x 5 [],.v (Value.slice none 0 0)] 42,.cells [.v (Value.slice none 0 0),.v (Value.slice none 0 0),.v (Value.slice none 0 0),.v (Value.slice none 0 0)] 42,.cells [.x 6 [],.x 7 [],.x 8 [],.x 9 []] 33,.rowc 67 1 (Int.toNat c.1) (Ct.zero [Value.slice none 0 0]),.rowc 67 1 (Int.toNat c.2) (Ct.zero [Value.slice none 0 0]),.ext false (.s false 1 l.length (cT l)),.ext false (.s false 2 p.1.length (cRg p.1)),.ext false (.s false 2 p.2.length (cTa p.2)),.ext false (.s false 6 p.3.length (cLk p.3)),.ext false (.s false 1 p.4.length (cT p.4))]))∧((∀ M:Mem,(0:Int)≤c.2∧c.2≤c.2∧(24:Int)*c.2≤(281474976710656:Int)∧c.2≤(9223372036854775807:Int))∧(∀ M:Mem,(0:Int)≤c.1∧c.1≤c.1∧(24:Int)*c.1≤(281474976710656:Int)∧c.1≤(9223372036854775807:Int))∧(∀ M:Mem,0+4≤4)∧K [.at [0,1,0,1,1,1,1,1],.blk 0,.at [1,1,1,1,1,1]] (St.mk [(12,.v (qA 0)),(11,.p 0 0),(10,.v (qA (usN k))),(6,.p 1 0),(5,.p 2 0)] [.cells [.o 3,.o 4,.x 5 [],.v (Value.slice none 0 0)] 42,.cells [.v (Value.slice none 0 0),.v (Value.slice none 0 0),.v (Value.slice none 0 0),.v (Value.slice none 0 0)] 42,.cells [.x 6 [],.x 7 [],.x 8 [],.x 9 []] 33,.rowc 67 1 (Int.toNat c.1) (Ct.zero [Value.slice none 0 0]),.rowc 67 1 (Int.toNat c.2) (Ct.zero [Value.slice none 0 0]),.ext false (.s false 1 l.length (cT l)),.ext false (.s false 2 p.1.length (cRg p.1)),.ext false (.s false 2 p.2.length (cTa p.2)),.ext false (.s false 6 p.3.length (cLk p.3)),.ext false (.s false 1 p.4.length (cT p.4))]))∧((∀ M:Mem,(0:Int)≤c.2∧c.2≤c.2∧(24:Int)*c.2≤(281474976710656:Int)∧c.2≤(9223372036854775807:Int))∧(∀ M:Mem,(0:Int)≤c.1∧c.1≤c.1∧(24:Int)*c.1≤(281474976710656:Int)∧c.1≤(9223372036854775807:Int))∧(∀ M:Mem,0+4≤4)∧K [.at [0,1,0,1,1,1,1,1],.blk 0,.at [1,1,1,1,1,1]] (St.mk [(12,.v (qA 0)),(11,.p 0 0),(10,.v (qA (usN k))),(6,.p 1 0),(5,.p 2 0)] [.cells [.o 3,.o 4,.x 5 [],.v (Value.slice none 0 0)] 42,.cells [.v (Value.slice none 0 0),.v (Value.slice none 0 0),.v (Value.slice none 0 0),.v (Value.slice none 0 0)] 42,.cells [.x 6 [],.x 7 [],.x 8 [],.x 9 []] 33,.rowc 67 1 (Int.toNat c.1) (Ct.zero [Value.slice none 0 0]),.rowc 67 1 (Int.toNat c.2) (Ct.zero [Value.slice none 0 0]),.ext false (.s false 1 l.length (cT l)),.ext false (.s false 2 p.1.length (cRg p.1)),.ext false (.s false 2 p.2.length (cTa p.2)),.ext false (.s false 6 p.3.length (cLk p.3)),.ext false (.s false 1 p.4.length (cT p.4))]))∧((∀ M:Mem,(0:Int)≤c.1∧c.1≤c.1∧(24:Int)*c.1≤(281474976710656:Int)∧c.1≤(9223372036854775807:Int))∧(∀ M:Mem,(0:Int)≤c.2∧c.2≤c.2∧(24:Int)*c.2≤(281474976710656:Int)∧c.2≤(9223372036854775807:Int))∧(∀ M:Mem,0+4≤4)∧K [.at [0,1,0,1,1,1,1,1],.blk 0,.at [1,1,1,1,1,1]] (St.mk [(12,.v (qA 0)),(11,.p 0 0),(10,.v (qA (usN k))),(6,.p 1 0),(5,.p 2 0)] [.cells [.o 3,.o 4,.x 5 [],.v (Value.slice none 0 0)] 42,.cells [.v (Value.slice none 0 0),.v (Value.slice none 0 0),.v (Value.slice none 0 0),.v (Value.slice none 0 0)] 42,.cells [.x 6 [],.x 7 [],.x 8 [],.x 9 []] 33,.rowc 67 1 (Int.toNat c.1) (Ct.zero [Value.slice none 0 0]),.rowc 67 1 (Int.toNat c.2) (Ct.zero [Value.slice none 0 0]),.ext false (.s false 1 l.length (cT l)),.ext false (.s false 2 p.1.length (cRg p.1)),.ext false (.s false 2 p.2.length (cTa p.2)),.ext false (.s false 6 p.3.length (cLk p.3)),.ext false (.s false 1 p.4.length (cT p.4))]))∧(∀ M:Mem,(0:Int)≤c.2∧c.2≤c.2∧(24:Int)*c.2≤(281474976710656:Int)∧c.2≤(9223372036854775807:Int))∧(∀ M:Mem,(0:Int)≤c.1∧c.1≤c.1∧(24:Int)*c.1≤(281474976710656:Int)∧c.1≤(9223372036854775807:Int))∧(∀ M:Mem,0+4≤4)∧K [.at [0,1,0,1,1,1,1,1],.blk 0,.at [1,1,1,1,1,1]] (St.mk [(12,.v (qA 0)),(11,.p 0 0),(10,.v (qA (usN k))),(6,.p 1 0),(5,.p 2 0)] [.cells [.o 3,.o 4,.x 5 [],.v (Value.slice none 0 0)] 42,.cells [.v (Value.slice none 0 0),.v (Value.slice none 0 0),.v (Value.slice none 0 0),.v (Value.slice none 0 0)] 42,.cells [.x 6 [],.x 7 [],.x 8 [],.x 9 []] 33,.rowc 67 1 (Int.toNat c.1) (Ct.zero [Value.slice none 0 0]),.rowc 67 1 (Int.toNat c.2) (Ct.zero [Value.slice none 0 0]),.ext false (.s false 1 l.length (cT l)),.ext false (.s false 2 p.1.length (cRg p.1)),.ext false (.s false 2 p.2.length (cTa p.2)),.ext false (.s false 6 p.3.length (cLk p.3)),.ext false (.s false 1 p.4.length (cT p.4))]))∧((∀ M:Mem,(0:Int)≤c.1∧c.1≤c.1∧(24:Int)*c.1≤(281474976710656:Int)∧c.1≤(9223372036854775807:Int))∧(∀ M:Mem,(0:Int)≤c.2∧c.2≤c.2∧(24:Int)*c.2≤(281474976710656:Int)∧c.2≤(9223372036854775807:Int))∧lT p.4.length (cT p.4) fun(l:List (List Nat))=>(∀ M:Mem,0+4≤4)∧K [.at [0,1,0,1,1,1,1,1],.blk 0,.at [1,1,1,1,1,1]] (St.mk [(12,.v (qA 0)),(11,.p 0 0),(10,.v (qA (usN k))),(6,.p 1 0),(5,.p 2 0)] [.cells [.o 3,.o 4,.x 5 [],.v (Value.slice none 0 0)] 42,.cells [.v (Value.slice none 0 0),.v (Value.slice none 0 0),.v (Value.slice none 0 0),.v (Value.slice none 0 0)] 42,.cells [.x 6 [],.x 7 [],.x 8 [],.x 9 []] 33,.rowc 67 1 (Int.toNat c.1) (Ct.zero [Value.slice none 0 0]),.rowc 67 1 (Int.toNat c.2) (Ct.zero [Value.slice none 0 0]),.ext false (.s false 1 l.length (cT l)),.ext false (.s false 2 p.1.length (cRg p.1)),.ext false (.s false 2 p.2.length (cTa p.2)),.ext false (.s false 6 p.3.length (cLk p.3)),.ext false (.s false 1 p.4.length (cT p.4))]))∧((∀ M:Mem,(0:Int)≤c.1∧c.1≤c.1∧(24:Int)*c.1≤(281474976710656:Int)∧c.1≤(9223372036854775807:Int))∧lT p.4.length (cT p.4) fun(l:List (List Nat))=>(∀ M:Mem,(0:Int)≤c.2∧c.2≤c.2∧(24:Int)*c.2≤(281474976710656:Int)∧c.2≤(9223372036854775807:Int))∧(∀ M:Mem,0+4≤4)∧K [.at [0,1,0,1,1,1,1,1],.blk 0,.at [1,1,1,1,1,1]] (St.mk [(12,.v (qA 0)),(11,.p 0 0),(10,.v (qA (usN k))),(6,.p 1 0),(5,.p 2 0)] [.cells [.o 3,.o 4,.x 5 [],.v (Value.slice none 0 0)] 42,.cells [.v (Value.slice none 0 0),.v (Value.slice none 0 0),.v (Value.slice none 0 0),.v (Value.slice none 0 0)] 42,.cells [.x 6 [],.x 7 [],.x 8 [],.x 9 []] 33,.rowc 67 1 (Int.toNat c.1) (Ct.zero [Value.slice none 0 0]),.rowc 67 1 (Int.toNat c.2) (Ct.zero [Value.slice none 0 0]),.ext false (.s false 1 l.length (cT l)),.ext false (.s false 2 p.1.length (cRg p.1)),.ext false (.s false 2 p.2.length (cTa p.2)),.ext false (.s false 6 p.3.length (cLk p.3)),.ext false (.s false 1 p.4.length (cT p.4))]))∧((∀ M:Mem,(0:Int)≤c.2∧c.2≤c.2∧(24:Int)*c.2≤(281474976710656:Int)∧c.2≤(9223372036854775807:Int))∧(∀ M:Mem,(0:Int)≤c.1∧c.1≤c.1∧(24:Int)*c.1≤(281474976710656:Int)∧c.1≤(9223372036854775807:Int))∧lT p.4.length (cT p.4) fun(l:List (List Nat))=>(∀ M:Mem,0+4≤4)∧K [.at [0,1,0,1,1,1,1,1],.blk 0,.at [1,1,1,1,1,1]] (St.mk [(12,.v (qA 0)),(11,.p 0 0),(10,.v (qA (usN k))),(6,.p 1 0),(5,.p 2 0)] [.cells [.o 3,.o 4,.x 5 [],.v (Value.slice none 0 0)] 42,.cells [.v (Value.slice none 0 0),.v (Value.slice none 0 0),.v (Value.slice none 0 0),.v (Value.slice none 0 0)] 42,.cells [.x 6 [],.x 7 [],.x 8 [],.x 9 []] 33,.rowc 67 1 (Int.toNat c.1) (Ct.zero [Value.slice none 0 0]),.rowc 67 1 (Int.toNat c.2) (Ct.zero [Value.slice none 0 0]),.ext false (.s false 1 l.length (cT l)),.ext false (.s false 2 p.1.length (cRg p.1)),.ext false (.s false 2 p.2.length (cTa p.2)),.ext false (.s false 6 p.3.length (cLk p.3)),.ext false (.s false 1 p.4.length (cT p.4))]))∧((∀ M:Mem,(0:Int)≤c.2∧c.2≤c.2∧(24:Int)*c.2≤(281474976710656:Int)∧c.2≤(9223372036854775807:Int))∧lT p.4.length (cT p.4) fun(l:List (List Nat))=>(∀ M:Mem,(0:Int)≤c.1∧c.1≤c.1∧(24:Int)*c.1≤(281474976710656:Int)∧c.1≤(9223372036854775807:Int))∧(∀ M:Mem,0+4≤4)∧K [.at [0,1,0,1,1,1,1,1],.blk 0,.at [1,1,1,1,1,1]] (St.mk [(12,.v (qA 0)),(11,.p 0 0),(10,.v (qA (usN k))),(6,.p 1 0),(5,.p 2 0)] [.cells [.o 3,.o 4,.x 5 [],.v (Value.slice none 0 0)] 42,.cells [.v (Value.slice none 0 0),.v (Value.slice none 0 0),.v (Value.slice none 0 0),.v (Value.slice none 0 0)] 42,.cells [.x 6 [],.x 7 [],.x 8 [],.x 9 []] 33,.rowc 67 1 (Int.toNat c.1) (Ct.zero [Value.slice none 0 0]),.rowc 67 1 (Int.toNat c.2) (Ct.zero [Value.slice none 0 0]),.ext false (.s false 1 l.length (cT l)),.ext false (.s false 2 p.1.length (cRg p.1)),.ext false (.s false 2 p.2.length (cTa p.2)),.ext false (.s false 6 p.3.length (cLk p.3)),.ext false (.s false 1 p.4.length (cT p.4))]))∧lT p.4.length (cT p.4) fun(l:List (List Nat))=>((∀ M:Mem,(0:Int)≤c.1∧c.1≤c.1∧(24:Int)*c.1≤(281474976710656:Int)∧c.1≤(9223372036854775807:Int))∧(∀ M:Mem,(0:Int)≤c.2∧c.2≤c.2∧(24:Int)*c.2≤(281474976710656:Int)∧c.2≤(9223372036854775807:Int))∧(∀ M:Mem,0+4≤4)∧K [.at [0,1,0,1,1,1,1,1],.blk 0,.at [1,1,1,1,1,1]] (St.mk [(12,.v (qA 0)),(11,.p 0 0),(10,.v (qA (usN k))),(6,.p 1 0),(5,.p 2 0)] [.cells [.o 3,.o 4,.x 5 [],.v (Value.slice none 0 0)] 42,.cells [.v (Value.slice none 0 0),.v (Value.slice none 0 0),.v (Value.slice none 0 0),.v (Value.slice none 0 0)] 42,.cells [.x 6 [],.x 7 [],.x 8 [],.x 9 []] 33,.rowc 67 1 (Int.toNat c.1) (Ct.zero [Value.slice none 0 0]),.rowc 67 1 (Int.toNat c.2) (Ct.zero [Value.slice none 0 0]),.ext false (.s false 1 l.length (cT l)),.ext false (.s false 2 p.1.length (cRg p.1)),.ext false (.s false 2 p.2.length (cTa p.2)),.ext false (.s false 6 p.3.length (cLk p.3)),.ext false (.s false 1 p.4.length (cT p.4))]))∧(∀ M:Mem,(0:Int)≤c.2∧c.2≤c.2∧(24:Int)*c.2≤(281474976710656:Int)∧c.2≤(9223372036854775807:Int))∧(∀ M:Mem,(0:Int)≤c.1∧c.1≤c.1∧(24:Int)*c.1≤(281474976710656:Int)∧c.1≤(9223372036854775807:Int))∧(∀ M:Mem,0+4≤4)∧K [.at [0,1,0,1,1,1,1,1],.blk 0,.at [1,1,1,1,1,1]] (St.mk [(12,.v (qA 0)),(11,.p 0 0),(10,.v (qA (usN k))),(6,.p 1 0),(5,.p 2 0)] [.cells [.o 3,.o 4,.x 5 [],.v (Value.slice none 0 0)] 42,.cells [.v (Value.slice none 0 0),.v (Value.slice none 0 0),.v (Value.slice none 0 0),.v (Value.slice none 0 0)] 42,.cells [.x 6 [],.x 7 [],.x 8 [],.x 9 []] 33,.rowc 67 1 (Int.toNat c.1) (Ct.zero [Value.slice none 0 0]),.rowc 67 1 (Int.toNat c.2) (Ct.zero [Value.slice none 0 0]),.ext false (.s false 1 l.length (cT l)),.ext false (.s false 2 p.1.length (cRg p.1)),.ext false (.s false 2 p.2.length (cTa p.2)),.ext false (.s false 6 p.3.length (cLk p.3)),.ext false (.s false 1 p.4.length (cT p.4))])):=by kernel_rfl
theorem zRx(c:Cir)(p:Pln)(u:Int)(gF gA:Nat→Nat×(Nat→Nat→qB))(nF nA:Nat)(i M:Nat)(K:List It→St→Prop)(R:SV→List HO→Prop):W (xwp Tryz.prog X (qUf.add 34 qMz qAy) [(49,[])] 60 (qO Tryz.f13 [] [⟨[0,1,0,1,1,1,1,1],[12,11,10,6,5],[]⟩,⟨[0,1,0,1,1,1,1,1,1,1],[14,13,11,10,6,5],[]⟩,⟨[0,0,1,1,0,0,1,0,0,1,0,1,1,1,1,1,1,1],[16,15,14,13,11,10,6,5],[]⟩,⟨[0,1,0,1,1,0,0,0,0,1,1,0,0,1,0,0,1,0,1,1,1,1,1,1,1],[18,17,16,15,14,13,11,10,6,5],[]⟩,⟨[0,1,1,1,1,1,0,0,1,0,0,1,0,1,1,1,1,1,1,1],[19,16,15,14,13,11,10,6,5],[]⟩,⟨[0,1,0,1,1,1,1,1,1,1,1],[21,13,11,6,5],[]⟩]) [] (.at [0,0,1,0,1,1,1,1,1]::.rnd [0,0,1,0,1,1,1,1,1] M::[.blk 0,.at [1,1,1,1,1,1]]) (St.mk [(12,.v (qA (i:Int))),(11,.p 0 0),(10,.v (qA u)),(6,.p 1 0),(5,.p 2 0)] [.cells [.o 3,.o 4,.x 5 [],.v (Value.slice none 0 0)] 42,.cells [.v (Value.slice none 0 0),.v (Value.slice none 0 0),.v (Value.slice none 0 0),.v (Value.slice none 0 0)] 42,.cells [.x 6 [],.x 7 [],.x 8 [],.x 9 []] 33,HO.tbl 67 53 4 nF gF none,HO.tbl 67 53 4 nA gA none,.ext false (.s false 1 p.4.length (cT p.4)),.ext false (.s false 2 p.1.length (cRg p.1)),.ext false (.s false 2 p.2.length (cTa p.2)),.ext false (.s false 6 p.3.length (cLk p.3)),.ext false (.s false 1 p.4.length (cT p.4))]) K R)=W (bif decide ((↑i:Int)<(↑p.2.length:Int)) then(∀ M:Mem,(0:Int)≤(↑i:Int)∧(↑i:Int)<(↑p.2.length:Int))∧(∀ M:Mem,i<List.length p.2)∧(∀ M:Mem,i<List.length p.2)∧(∀ M:Mem,i<List.length p.2)∧bif decide (u<(↑(List.length (gTa p.2 i).2):Int)) then(∀ M:Mem,4≤4)∧R (.tup [.agg [.v (Value.slice none 0 0),.v (Value.slice none 0 0),.v (Value.slice none 0 0),.v (Value.slice none 0 0)],.v (Value.slice none 0 0),.v (qA 141)]) [] else(∀ M:Mem,(0:Int)≤(↑i:Int)∧(↑i:Int)<(↑p.2.length:Int))∧(∀ M:Mem,i<List.length p.2)∧(∀ M:Mem,i<List.length p.2)∧(∀ M:Mem,(0:Int)≤(↑i:Int)∧(↑i:Int)<(↑p.2.length:Int))∧(∀ M:Mem,i<List.length p.2)∧(∀ M:Mem,i<List.length p.2)∧(∀ M:Mem,i<List.length p.2)∧lE (List.length (gTa p.2 i).2) (cE (gTa p.2 i).2) fun(l:List Nat)=>(∀ M:Mem,(0:Int)≤(gTa p.2 i).1∧(gTa p.2 i).1<(↑nF:Int))∧(∀ M:Mem,Int.toNat (gTa p.2 i).1<nF)∧(∀ M:Mem,True)∧K [.rnd [0,0,1,0,1,1,1,1,1] M,.blk 0,.at [1,1,1,1,1,1]] (St.mk [(12,.v (qA (IntKind.wrap .i64 ((↑i:Int)+(1:Int))))),(11,.p 0 0),(10,.v (qA u)),(6,.p 1 0),(5,.p 2 0)] [.cells [.o 3,.o 4,.x 5 [],.v (Value.slice none 0 0)] 42,.cells [.v (Value.slice none 0 0),.v (Value.slice none 0 0),.v (Value.slice none 0 0),.v (Value.slice none 0 0)] 42,.cells [.x 6 [],.x 7 [],.x 8 [],.x 9 []] 33,HO.tbl 67 53 4 nF gF (some (Int.toNat (gTa p.2 i).1,10)),HO.tbl 67 53 4 nA gA none,.ext false (.s false 1 p.4.length (cT p.4)),.ext false (.s false 2 p.1.length (cRg p.1)),.ext false (.s false 2 p.2.length (cTa p.2)),.ext false (.s false 6 p.3.length (cLk p.3)),.ext false (.s false 1 p.4.length (cT p.4)),.rowc 53 4 l.length (.fn (cE l))]) else K [.at [0,1,0,1,1,1,1,1,1,1],.blk 2,.at [1,1,1,1,1,1,1,1]] (St.mk [(14,.v (qA 0)),(13,.o 0),(11,.p 1 0),(10,.v (qA u)),(6,.p 2 0),(5,.p 3 0)] [.rowc 3 1 0 (.lit 1 []),.cells [.o 4,.o 5,.x 6 [],.v (Value.slice none 0 0)] 42,.cells [.v (Value.slice none 0 0),.v (Value.slice none 0 0),.v (Value.slice none 0 0),.v (Value.slice none 0 0)] 42,.cells [.x 7 [],.x 8 [],.x 9 [],.x 10 []] 33,HO.tbl 67 53 4 nF gF none,HO.tbl 67 53 4 nA gA none,.ext false (.s false 1 p.4.length (cT p.4)),.ext false (.s false 2 p.1.length (cRg p.1)),.ext false (.s false 2 p.2.length (cTa p.2)),.ext false (.s false 6 p.3.length (cLk p.3)),.ext false (.s false 1 p.4.length (cT p.4))])):=by kernel_rfl
theorem zRa(c:Cir)(p:Pln)(u:Int)(lF lA:List (List Nat))(ss:List Int)(m:Nat)(i M:Nat)(K:List It→St→Prop)(R:SV→List HO→Prop):W (xwp Tryz.prog X (qUf.add 34 qMz qAy) [(49,[])] 60 (qO Tryz.f13 [] [⟨[0,1,0,1,1,1,1,1],[12,11,10,6,5],[]⟩,⟨[0,1,0,1,1,1,1,1,1,1],[14,13,11,10,6,5],[]⟩,⟨[0,0,1,1,0,0,1,0,0,1,0,1,1,1,1,1,1,1],[16,15,14,13,11,10,6,5],[]⟩,⟨[0,1,0,1,1,0,0,0,0,1,1,0,0,1,0,0,1,0,1,1,1,1,1,1,1],[18,17,16,15,14,13,11,10,6,5],[]⟩,⟨[0,1,1,1,1,1,0,0,1,0,0,1,0,1,1,1,1,1,1,1],[19,16,15,14,13,11,10,6,5],[]⟩,⟨[0,1,0,1,1,1,1,1,1,1,1],[21,13,11,6,5],[]⟩]) [] (.at [0,0,1,0,1,1,1,1,1,1,1]::.rnd [0,0,1,0,1,1,1,1,1,1,1] M::[.blk 2,.at [1,1,1,1,1,1,1,1]]) (St.mk [(14,.v (qA (i:Int))),(13,.o 0),(11,.p 1 0),(10,.v (qA u)),(6,.p 2 0),(5,.p 3 0)] [.rowc 3 1 m (.fn (cI ss)),.cells [.x 4 [],.x 5 [],.x 6 [],.v (Value.slice none 0 0)] 42,.cells [.v (Value.slice none 0 0),.v (Value.slice none 0 0),.v (Value.slice none 0 0),.v (Value.slice none 0 0)] 42,.cells [.x 7 [],.x 8 [],.x 9 [],.x 10 []] 33,.ext false (.s false 1 lF.length (cT lF)),.ext false (.s false 1 lA.length (cT lA)),.ext false (.s false 1 p.4.length (cT p.4)),.ext false (.s false 2 p.1.length (cRg p.1)),.ext false (.s false 2 p.2.length (cTa p.2)),.ext false (.s false 6 p.3.length (cLk p.3)),.ext false (.s false 1 p.4.length (cT p.4))]) K R)=W (bif decide ((↑i:Int)<(↑p.1.length:Int)) then(∀ M:Mem,(0:Int)≤(↑i:Int)∧(↑i:Int)<(↑p.1.length:Int))∧(∀ M:Mem,i<List.length p.1)∧(∀ M:Mem,0+2≤2)∧K [.at [0,0,1,1,0,0,1,0,0,1,0,1,1,1,1,1,1,1],.blk 4,.at [1,1,1,0,0,1,0,0,1,0,1,1,1,1,1,1,1],.blk 3,.at [1,1,0,0,1,0,1,1,1,1,1,1,1],.rnd [0,0,1,0,1,1,1,1,1,1,1] M,.blk 2,.at [1,1,1,1,1,1,1,1]] (St.mk [(16,.v (qA 0)),(15,.p 0 0),(14,.v (qA (↑i:Int))),(13,.o 1),(11,.p 2 0),(10,.v (qA u)),(6,.p 3 0),(5,.p 4 0)] [.cells [.v (qA (gRg p.1 i).1),.x 5 [(2,i,1)]] 50,.rowc 3 1 m (.fn (cI ss)),.cells [.x 6 [],.x 7 [],.x 8 [],.v (Value.slice none 0 0)] 42,.cells [.v (Value.slice none 0 0),.v (Value.slice none 0 0),.v (Value.slice none 0 0),.v (Value.slice none 0 0)] 42,.cells [.x 5 [],.x 9 [],.x 10 [],.x 11 []] 33,.ext false (.s false 2 p.1.length (cRg p.1)),.ext false (.s false 1 lF.length (cT lF)),.ext false (.s false 1 lA.length (cT lA)),.ext false (.s false 1 p.4.length (cT p.4)),.ext false (.s false 2 p.2.length (cTa p.2)),.ext false (.s false 6 p.3.length (cLk p.3)),.ext false (.s false 1 p.4.length (cT p.4))]) else K [.at [0,1,0,1,1,1,1,1,1,1,1],.blk 10,.at [1,1,1,1,1,1,1,1,1]] (St.mk [(21,.v (qA 0)),(13,.o 0),(11,.p 1 0),(6,.p 2 0),(5,.p 3 0)] [.rowc 3 1 m (.fn (cI ss)),.cells [.x 4 [],.x 5 [],.x 6 [],.v (Value.slice none 0 0)] 42,.cells [.v (Value.slice none 0 0),.v (Value.slice none 0 0),.v (Value.slice none 0 0),.v (Value.slice none 0 0)] 42,.cells [.x 7 [],.x 8 [],.x 9 [],.x 10 []] 33,.ext false (.s false 1 lF.length (cT lF)),.ext false (.s false 1 lA.length (cT lA)),.ext false (.s false 1 p.4.length (cT p.4)),.ext false (.s false 2 p.1.length (cRg p.1)),.ext false (.s false 2 p.2.length (cTa p.2)),.ext false (.s false 6 p.3.length (cLk p.3)),.ext false (.s false 1 p.4.length (cT p.4))])):=by kernel_rfl
theorem zMn(c:Cir)(p:Pln)(u:Int)(lF lA:List (List Nat))(ss:List Int)(m:Nat)(i:Nat)(a:Int)(M M2:Nat)(K:List It→St→Prop)(R:SV→List HO→Prop):W (xwp Tryz.prog X (qUf.add 34 qMz qAy) [(49,[])] 60 (qO Tryz.f13 [] [⟨[0,1,0,1,1,1,1,1],[12,11,10,6,5],[]⟩,⟨[0,1,0,1,1,1,1,1,1,1],[14,13,11,10,6,5],[]⟩,⟨[0,0,1,1,0,0,1,0,0,1,0,1,1,1,1,1,1,1],[16,15,14,13,11,10,6,5],[]⟩,⟨[0,1,0,1,1,0,0,0,0,1,1,0,0,1,0,0,1,0,1,1,1,1,1,1,1],[18,17,16,15,14,13,11,10,6,5],[]⟩,⟨[0,1,1,1,1,1,0,0,1,0,0,1,0,1,1,1,1,1,1,1],[19,16,15,14,13,11,10,6,5],[]⟩,⟨[0,1,0,1,1,1,1,1,1,1,1],[21,13,11,6,5],[]⟩]) [] (.at [0,0,0,1,1,0,0,1,0,0,1,0,1,1,1,1,1,1,1]::.rnd [0,0,0,1,1,0,0,1,0,0,1,0,1,1,1,1,1,1,1] M::[.blk 4,.at [1,1,1,0,0,1,0,0,1,0,1,1,1,1,1,1,1],.blk 3,.at [1,1,0,0,1,0,1,1,1,1,1,1,1],.rnd [0,0,1,0,1,1,1,1,1,1,1] M2,.blk 2,.at [1,1,1,1,1,1,1,1]]) (St.mk [(16,.v (qA (a:Int))),(15,.p 0 0),(14,.v (qA (↑i:Int))),(13,.o 1),(11,.p 2 0),(10,.v (qA u)),(6,.p 3 0),(5,.p 4 0)] [.cells [.v (qA (gRg p.1 i).1),.x 5 [(2,i,1)]] 50,.rowc 3 1 m (.fn (cI ss)),.cells [.x 6 [],.x 7 [],.x 8 [],.v (Value.slice none 0 0)] 42,.cells [.v (Value.slice none 0 0),.v (Value.slice none 0 0),.v (Value.slice none 0 0),.v (Value.slice none 0 0)] 42,.cells [.x 5 [],.x 9 [],.x 10 [],.x 11 []] 33,.ext false (.s false 2 p.1.length (cRg p.1)),.ext false (.s false 1 lF.length (cT lF)),.ext false (.s false 1 lA.length (cT lA)),.ext false (.s false 1 p.4.length (cT p.4)),.ext false (.s false 2 p.2.length (cTa p.2)),.ext false (.s false 6 p.3.length (cLk p.3)),.ext false (.s false 1 p.4.length (cT p.4))]) K R)=W (bif decide (u<(gRg p.1 i).1) then(∀ M:Mem,4≤4)∧R (.tup [.agg [.v (Value.slice none 0 0),.v (Value.slice none 0 0),.v (Value.slice none 0 0),.v (Value.slice none 0 0)],.v (Value.slice none 0 0),.v (qA 141)]) [] else bif decide (IntKind.wrap .i64 (u-(gRg p.1 i).1)<a) then(∀ M:Mem,4≤4)∧R (.tup [.agg [.v (Value.slice none 0 0),.v (Value.slice none 0 0),.v (Value.slice none 0 0),.v (Value.slice none 0 0)],.v (Value.slice none 0 0),.v (qA 141)]) [] else K [.at [0,1,0,1,1,0,0,0,0,1,1,0,0,1,0,0,1,0,1,1,1,1,1,1,1],.blk 6,.at [1,1,1,0,0,0,0,1,1,0,0,1,0,0,1,0,1,1,1,1,1,1,1],.blk 5,.rnd [0,0,0,1,1,0,0,1,0,0,1,0,1,1,1,1,1,1,1] M,.blk 4,.at [1,1,1,0,0,1,0,0,1,0,1,1,1,1,1,1,1],.blk 3,.at [1,1,0,0,1,0,1,1,1,1,1,1,1],.rnd [0,0,1,0,1,1,1,1,1,1,1] M2,.blk 2,.at [1,1,1,1,1,1,1,1]] (St.mk [(18,.v (qA 0)),(17,.v (.bool true)),(16,.v (qA a)),(15,.p 0 0),(14,.v (qA (↑i:Int))),(13,.o 1),(11,.p 2 0),(10,.v (qA u)),(6,.p 3 0),(5,.p 4 0)] [.cells [.v (qA (gRg p.1 i).1),.x 5 [(2,i,1)]] 50,.rowc 3 1 m (.fn (cI ss)),.cells [.x 6 [],.x 7 [],.x 8 [],.v (Value.slice none 0 0)] 42,.cells [.v (Value.slice none 0 0),.v (Value.slice none 0 0),.v (Value.slice none 0 0),.v (Value.slice none 0 0)] 42,.cells [.x 5 [],.x 9 [],.x 10 [],.x 11 []] 33,.ext false (.s false 2 p.1.length (cRg p.1)),.ext false (.s false 1 lF.length (cT lF)),.ext false (.s false 1 lA.length (cT lA)),.ext false (.s false 1 p.4.length (cT p.4)),.ext false (.s false 2 p.2.length (cTa p.2)),.ext false (.s false 6 p.3.length (cLk p.3)),.ext false (.s false 1 p.4.length (cT p.4))])):=by kernel_rfl
theorem zRf(c:Cir)(p:Pln)(u:Int)(lF lA:List (List Nat))(ss:List Int)(m:Nat)(i:Nat)(a:Int)(b:Bool)(j M M2 M3:Nat)(K:List It→St→Prop)(R:SV→List HO→Prop):W (xwp Tryz.prog X (qUf.add 34 qMz qAy) [(49,[])] 60 (qO Tryz.f13 [] [⟨[0,1,0,1,1,1,1,1],[12,11,10,6,5],[]⟩,⟨[0,1,0,1,1,1,1,1,1,1],[14,13,11,10,6,5],[]⟩,⟨[0,0,1,1,0,0,1,0,0,1,0,1,1,1,1,1,1,1],[16,15,14,13,11,10,6,5],[]⟩,⟨[0,1,0,1,1,0,0,0,0,1,1,0,0,1,0,0,1,0,1,1,1,1,1,1,1],[18,17,16,15,14,13,11,10,6,5],[]⟩,⟨[0,1,1,1,1,1,0,0,1,0,0,1,0,1,1,1,1,1,1,1],[19,16,15,14,13,11,10,6,5],[]⟩,⟨[0,1,0,1,1,1,1,1,1,1,1],[21,13,11,6,5],[]⟩]) [] (.at [0,0,1,0,1,1,0,0,0,0,1,1,0,0,1,0,0,1,0,1,1,1,1,1,1,1]::.rnd [0,0,1,0,1,1,0,0,0,0,1,1,0,0,1,0,0,1,0,1,1,1,1,1,1,1] M::[.blk 6,.at [1,1,1,0,0,0,0,1,1,0,0,1,0,0,1,0,1,1,1,1,1,1,1],.blk 5,.rnd [0,0,0,1,1,0,0,1,0,0,1,0,1,1,1,1,1,1,1] M3,.blk 4,.at [1,1,1,0,0,1,0,0,1,0,1,1,1,1,1,1,1],.blk 3,.at [1,1,0,0,1,0,1,1,1,1,1,1,1],.rnd [0,0,1,0,1,1,1,1,1,1,1] M2,.blk 2,.at [1,1,1,1,1,1,1,1]]) (St.mk [(18,.v (qA (j:Int))),(17,.v (.bool b)),(16,.v (qA a)),(15,.p 0 0),(14,.v (qA (↑i:Int))),(13,.o 1),(11,.p 2 0),(10,.v (qA u)),(6,.p 3 0),(5,.p 4 0)] [.cells [.v (qA (gRg p.1 i).1),.x 5 [(2,i,1)]] 50,.rowc 3 1 m (.fn (cI ss)),.cells [.x 6 [],.x 7 [],.x 8 [],.v (Value.slice none 0 0)] 42,.cells [.v (Value.slice none 0 0),.v (Value.slice none 0 0),.v (Value.slice none 0 0),.v (Value.slice none 0 0)] 42,.cells [.x 5 [],.x 9 [],.x 10 [],.x 11 []] 33,.ext false (.s false 2 p.1.length (cRg p.1)),.ext false (.s false 1 lF.length (cT lF)),.ext false (.s false 1 lA.length (cT lA)),.ext false (.s false 1 p.4.length (cT p.4)),.ext false (.s false 2 p.2.length (cTa p.2)),.ext false (.s false 6 p.3.length (cLk p.3)),.ext false (.s false 1 p.4.length (cT p.4))]) K R)=W (bif decide ((↑j:Int)<(↑i:Int)) then(∀ M:Mem,(0:Int)≤(↑j:Int)∧(↑j:Int)<(↑p.1.length:Int))∧(∀ M:Mem,j<List.length p.1)∧(∀ M:Mem,(0:Int)≤(↑j:Int)∧(↑j:Int)<(↑m:Int))∧(∀ M:Mem,j<m)∧(∀ M:Mem,i<List.length p.1)∧(∀ M:Mem,j<List.length p.1)∧zKm (List.length (gRg p.1 i).2) (List.length (gRg p.1 j).2) (cPt (gRg p.1 i).2) (cPt (gRg p.1 j).2) (gRg p.1 i).1 a (gRg p.1 j).1 (gI ss j) fun(b_1:Bool)=>bif b_1 then K [.rnd [0,0,1,0,1,1,0,0,0,0,1,1,0,0,1,0,0,1,0,1,1,1,1,1,1,1] M,.blk 6,.at [1,1,1,0,0,0,0,1,1,0,0,1,0,0,1,0,1,1,1,1,1,1,1],.blk 5,.rnd [0,0,0,1,1,0,0,1,0,0,1,0,1,1,1,1,1,1,1] M3,.blk 4,.at [1,1,1,0,0,1,0,0,1,0,1,1,1,1,1,1,1],.blk 3,.at [1,1,0,0,1,0,1,1,1,1,1,1,1],.rnd [0,0,1,0,1,1,1,1,1,1,1] M2,.blk 2,.at [1,1,1,1,1,1,1,1]] (St.mk [(18,.v (qA (IntKind.wrap .i64 ((↑j:Int)+(1:Int))))),(17,.v (.bool false)),(16,.v (qA a)),(15,.p 0 0),(14,.v (qA (↑i:Int))),(13,.o 1),(11,.p 2 0),(10,.v (qA u)),(6,.p 3 0),(5,.p 4 0)] [.cells [.v (qA (gRg p.1 i).1),.x 5 [(2,i,1)]] 50,.rowc 3 1 m (.fn (cI ss)),.cells [.x 6 [],.x 7 [],.x 8 [],.v (Value.slice none 0 0)] 42,.cells [.v (Value.slice none 0 0),.v (Value.slice none 0 0),.v (Value.slice none 0 0),.v (Value.slice none 0 0)] 42,.cells [.x 5 [],.x 9 [],.x 10 [],.x 11 []] 33,.ext false (.s false 2 p.1.length (cRg p.1)),.ext false (.s false 1 lF.length (cT lF)),.ext false (.s false 1 lA.length (cT lA)),.ext false (.s false 1 p.4.length (cT p.4)),.ext false (.s false 2 p.2.length (cTa p.2)),.ext false (.s false 6 p.3.length (cLk p.3)),.ext false (.s false 1 p.4.length (cT p.4))]) else K [.rnd [0,0,1,0,1,1,0,0,0,0,1,1,0,0,1,0,0,1,0,1,1,1,1,1,1,1] M,.blk 6,.at [1,1,1,0,0,0,0,1,1,0,0,1,0,0,1,0,1,1,1,1,1,1,1],.blk 5,.rnd [0,0,0,1,1,0,0,1,0,0,1,0,1,1,1,1,1,1,1] M3,.blk 4,.at [1,1,1,0,0,1,0,0,1,0,1,1,1,1,1,1,1],.blk 3,.at [1,1,0,0,1,0,1,1,1,1,1,1,1],.rnd [0,0,1,0,1,1,1,1,1,1,1] M2,.blk 2,.at [1,1,1,1,1,1,1,1]] (St.mk [(18,.v (qA (IntKind.wrap .i64 ((↑j:Int)+(1:Int))))),(17,.v (.bool b)),(16,.v (qA a)),(15,.p 0 0),(14,.v (qA (↑i:Int))),(13,.o 1),(11,.p 2 0),(10,.v (qA u)),(6,.p 3 0),(5,.p 4 0)] [.cells [.v (qA (gRg p.1 i).1),.x 5 [(2,i,1)]] 50,.rowc 3 1 m (.fn (cI ss)),.cells [.x 6 [],.x 7 [],.x 8 [],.v (Value.slice none 0 0)] 42,.cells [.v (Value.slice none 0 0),.v (Value.slice none 0 0),.v (Value.slice none 0 0),.v (Value.slice none 0 0)] 42,.cells [.x 5 [],.x 9 [],.x 10 [],.x 11 []] 33,.ext false (.s false 2 p.1.length (cRg p.1)),.ext false (.s false 1 lF.length (cT lF)),.ext false (.s false 1 lA.length (cT lA)),.ext false (.s false 1 p.4.length (cT p.4)),.ext false (.s false 2 p.2.length (cTa p.2)),.ext false (.s false 6 p.3.length (cLk p.3)),.ext false (.s false 1 p.4.length (cT p.4))]) else bif b then(∀ M:Mem,(m+1)*8≤140737488355328∧m+1≤140737488355328)∧K [.at [0,1,1,1,1,1,0,0,1,0,0,1,0,1,1,1,1,1,1,1],.blk 8,.blk 3,.at [1,1,0,0,1,0,1,1,1,1,1,1,1],.rnd [0,0,1,0,1,1,1,1,1,1,1] M2,.blk 2,.at [1,1,1,1,1,1,1,1]] (St.mk [(19,.v (qA 0)),(16,.v (qA a)),(15,.p 0 0),(14,.v (qA (↑i:Int))),(13,.o 1),(11,.p 2 0),(10,.v (qA u)),(6,.p 3 0),(5,.p 4 0)] [.cells [.v (qA (gRg p.1 i).1),.x 5 [(2,i,1)]] 50,.rowc 3 1 (m+1) (.app m (.fn (cI ss)) (.lit 1 [.v (qA a)])),.cells [.x 6 [],.x 7 [],.x 8 [],.v (Value.slice none 0 0)] 42,.cells [.v (Value.slice none 0 0),.v (Value.slice none 0 0),.v (Value.slice none 0 0),.v (Value.slice none 0 0)] 42,.cells [.x 5 [],.x 9 [],.x 10 [],.x 11 []] 33,.ext false (.s false 2 p.1.length (cRg p.1)),.ext false (.s false 1 lF.length (cT lF)),.ext false (.s false 1 lA.length (cT lA)),.ext false (.s false 1 p.4.length (cT p.4)),.ext false (.s false 2 p.2.length (cTa p.2)),.ext false (.s false 6 p.3.length (cLk p.3)),.ext false (.s false 1 p.4.length (cT p.4))]) else K [.rnd [0,0,0,1,1,0,0,1,0,0,1,0,1,1,1,1,1,1,1] M3,.blk 4,.at [1,1,1,0,0,1,0,0,1,0,1,1,1,1,1,1,1],.blk 3,.at [1,1,0,0,1,0,1,1,1,1,1,1,1],.rnd [0,0,1,0,1,1,1,1,1,1,1] M2,.blk 2,.at [1,1,1,1,1,1,1,1]] (St.mk [(16,.v (qA (IntKind.wrap .i64 (a+(1:Int))))),(15,.p 0 0),(14,.v (qA (↑i:Int))),(13,.o 1),(11,.p 2 0),(10,.v (qA u)),(6,.p 3 0),(5,.p 4 0)] [.cells [.v (qA (gRg p.1 i).1),.x 5 [(2,i,1)]] 50,.rowc 3 1 m (.fn (cI ss)),.cells [.x 6 [],.x 7 [],.x 8 [],.v (Value.slice none 0 0)] 42,.cells [.v (Value.slice none 0 0),.v (Value.slice none 0 0),.v (Value.slice none 0 0),.v (Value.slice none 0 0)] 42,.cells [.x 5 [],.x 9 [],.x 10 [],.x 11 []] 33,.ext false (.s false 2 p.1.length (cRg p.1)),.ext false (.s false 1 lF.length (cT lF)),.ext false (.s false 1 lA.length (cT lA)),.ext false (.s false 1 p.4.length (cT p.4)),.ext false (.s false 2 p.2.length (cTa p.2)),.ext false (.s false 6 p.3.length (cLk p.3)),.ext false (.s false 1 p.4.length (cT p.4))])):=by kernel_rfl
theorem zQk(c:Cir)(p:Pln)(u:Int)(lF lA:List (List Nat))(ss:List Int)(m:Nat)(i:Nat)(a:Int)(j M M2:Nat)(K:List It→St→Prop)(R:SV→List HO→Prop):W (xwp Tryz.prog X (qUf.add 34 qMz qAy) [(49,[])] 60 (qO Tryz.f13 [] [⟨[0,1,0,1,1,1,1,1],[12,11,10,6,5],[]⟩,⟨[0,1,0,1,1,1,1,1,1,1],[14,13,11,10,6,5],[]⟩,⟨[0,0,1,1,0,0,1,0,0,1,0,1,1,1,1,1,1,1],[16,15,14,13,11,10,6,5],[]⟩,⟨[0,1,0,1,1,0,0,0,0,1,1,0,0,1,0,0,1,0,1,1,1,1,1,1,1],[18,17,16,15,14,13,11,10,6,5],[]⟩,⟨[0,1,1,1,1,1,0,0,1,0,0,1,0,1,1,1,1,1,1,1],[19,16,15,14,13,11,10,6,5],[]⟩,⟨[0,1,0,1,1,1,1,1,1,1,1],[21,13,11,6,5],[]⟩]) [] (.at [0,0,1,1,1,1,1,0,0,1,0,0,1,0,1,1,1,1,1,1,1]::.rnd [0,0,1,1,1,1,1,0,0,1,0,0,1,0,1,1,1,1,1,1,1] M::[.blk 8,.blk 3,.at [1,1,0,0,1,0,1,1,1,1,1,1,1],.rnd [0,0,1,0,1,1,1,1,1,1,1] M2,.blk 2,.at [1,1,1,1,1,1,1,1]]) (St.mk [(19,.v (qA (j:Int))),(16,.v (qA a)),(15,.p 0 0),(14,.v (qA (↑i:Int))),(13,.o 1),(11,.p 2 0),(10,.v (qA u)),(6,.p 3 0),(5,.p 4 0)] [.cells [.v (qA (gRg p.1 i).1),.x 5 [(2,i,1)]] 50,.rowc 3 1 m (.fn (cI ss)),.cells [.x 6 [],.x 7 [],.x 8 [],.v (Value.slice none 0 0)] 42,.cells [.v (Value.slice none 0 0),.v (Value.slice none 0 0),.v (Value.slice none 0 0),.v (Value.slice none 0 0)] 42,.cells [.x 5 [],.x 9 [],.x 10 [],.x 11 []] 33,.ext false (.s false 2 p.1.length (cRg p.1)),.ext false (.s false 1 lF.length (cT lF)),.ext false (.s false 1 lA.length (cT lA)),.ext false (.s false 1 p.4.length (cT p.4)),.ext false (.s false 2 p.2.length (cTa p.2)),.ext false (.s false 6 p.3.length (cLk p.3)),.ext false (.s false 1 p.4.length (cT p.4))]) K R)=W ((∀ M:Mem,i<List.length p.1)∧bif decide ((↑j:Int)<(↑(List.length (gRg p.1 i).2):Int)) then(∀ M:Mem,i<List.length p.1)∧(∀ M:Mem,(0:Int)≤(↑j:Int)∧(↑j:Int)<(↑(List.length (gRg p.1 i).2):Int))∧(∀ M:Mem,i<List.length p.1)∧(∀ M:Mem,j<List.length (gRg p.1 i).2)∧(∀ M:Mem,0+7≤7)∧bif(gPt (gRg p.1 i).2 j).1==(2:Int) then zFj lF.length (cT lF) (gPt (gRg p.1 i).2 j).2 (IntKind.wrap .i64 (a+(gPt (gRg p.1 i).2 j).3)) (eI (gPt (gRg p.1 i).2 j).4) fun(l:List (List Nat)) (v:Nat)=>(∀ M:Mem,0+1≤4)∧K [.rnd [0,0,1,1,1,1,1,0,0,1,0,0,1,0,1,1,1,1,1,1,1] M,.blk 8,.blk 3,.at [1,1,0,0,1,0,1,1,1,1,1,1,1],.rnd [0,0,1,0,1,1,1,1,1,1,1] M2,.blk 2,.at [1,1,1,1,1,1,1,1]] (St.mk [(19,.v (qA (IntKind.wrap .i64 ((↑j:Int)+(1:Int))))),(16,.v (qA a)),(15,.p 0 0),(14,.v (qA (↑i:Int))),(13,.o 1),(11,.p 2 0),(10,.v (qA u)),(6,.p 3 0),(5,.p 4 0)] [.cells [.v (qA (gRg p.1 i).1),.x 5 [(2,i,1)]] 50,.rowc 3 1 m (.fn (cI ss)),.cells [.o 6,.x 7 [],.x 8 [],.v (Value.slice none 0 0)] 42,.cells [.v (Value.slice none 0 0),.v (Value.slice none 0 0),.v (Value.slice none 0 0),.v (Value.slice none 0 0)] 42,.cells [.x 5 [],.x 9 [],.x 10 [],.x 11 []] 33,.ext false (.s false 2 p.1.length (cRg p.1)),HO.tbl 67 53 4 l.length (tC l) (some (Int.toNat (gPt (gRg p.1 i).2 j).2,12)),.ext false (.s false 1 lA.length (cT lA)),.ext false (.s false 1 p.4.length (cT p.4)),.ext false (.s false 2 p.2.length (cTa p.2)),.ext false (.s false 6 p.3.length (cLk p.3)),.ext false (.s false 1 p.4.length (cT p.4)),.rowc 53 4 (List.length (zJ (gT l (Int.toNat (gPt (gRg p.1 i).2 j).2)) (Int.toNat (IntKind.wrap .i64 (a+(gPt (gRg p.1 i).2 j).3))) v)) (.fn (cE (zJ (gT l (Int.toNat (gPt (gRg p.1 i).2 j).2)) (Int.toNat (IntKind.wrap .i64 (a+(gPt (gRg p.1 i).2 j).3))) v)))]) else zFj lA.length (cT lA) (gPt (gRg p.1 i).2 j).2 (IntKind.wrap .i64 (a+(gPt (gRg p.1 i).2 j).3)) (eI (gPt (gRg p.1 i).2 j).4) fun(l:List (List Nat)) (v:Nat)=>(∀ M:Mem,1+1≤4)∧K [.rnd [0,0,1,1,1,1,1,0,0,1,0,0,1,0,1,1,1,1,1,1,1] M,.blk 8,.blk 3,.at [1,1,0,0,1,0,1,1,1,1,1,1,1],.rnd [0,0,1,0,1,1,1,1,1,1,1] M2,.blk 2,.at [1,1,1,1,1,1,1,1]] (St.mk [(19,.v (qA (IntKind.wrap .i64 ((↑j:Int)+(1:Int))))),(16,.v (qA a)),(15,.p 0 0),(14,.v (qA (↑i:Int))),(13,.o 1),(11,.p 2 0),(10,.v (qA u)),(6,.p 3 0),(5,.p 4 0)] [.cells [.v (qA (gRg p.1 i).1),.x 5 [(2,i,1)]] 50,.rowc 3 1 m (.fn (cI ss)),.cells [.x 6 [],.o 7,.x 8 [],.v (Value.slice none 0 0)] 42,.cells [.v (Value.slice none 0 0),.v (Value.slice none 0 0),.v (Value.slice none 0 0),.v (Value.slice none 0 0)] 42,.cells [.x 5 [],.x 9 [],.x 10 [],.x 11 []] 33,.ext false (.s false 2 p.1.length (cRg p.1)),.ext false (.s false 1 lF.length (cT lF)),HO.tbl 67 53 4 l.length (tC l) (some (Int.toNat (gPt (gRg p.1 i).2 j).2,12)),.ext false (.s false 1 p.4.length (cT p.4)),.ext false (.s false 2 p.2.length (cTa p.2)),.ext false (.s false 6 p.3.length (cLk p.3)),.ext false (.s false 1 p.4.length (cT p.4)),.rowc 53 4 (List.length (zJ (gT l (Int.toNat (gPt (gRg p.1 i).2 j).2)) (Int.toNat (IntKind.wrap .i64 (a+(gPt (gRg p.1 i).2 j).3))) v)) (.fn (cE (zJ (gT l (Int.toNat (gPt (gRg p.1 i).2 j).2)) (Int.toNat (IntKind.wrap .i64 (a+(gPt (gRg p.1 i).2 j).3))) v)))]) else K [.rnd [0,0,1,0,1,1,1,1,1,1,1] M2,.blk 2,.at [1,1,1,1,1,1,1,1]] (St.mk [(14,.v (qA (IntKind.wrap .i64 ((↑i:Int)+(1:Int))))),(13,.o 0),(11,.p 1 0),(10,.v (qA u)),(6,.p 2 0),(5,.p 3 0)] [.rowc 3 1 m (.fn (cI ss)),.cells [.x 4 [],.x 5 [],.x 6 [],.v (Value.slice none 0 0)] 42,.cells [.v (Value.slice none 0 0),.v (Value.slice none 0 0),.v (Value.slice none 0 0),.v (Value.slice none 0 0)] 42,.cells [.x 7 [],.x 8 [],.x 9 [],.x 10 []] 33,.ext false (.s false 1 lF.length (cT lF)),.ext false (.s false 1 lA.length (cT lA)),.ext false (.s false 1 p.4.length (cT p.4)),.ext false (.s false 2 p.1.length (cRg p.1)),.ext false (.s false 2 p.2.length (cTa p.2)),.ext false (.s false 6 p.3.length (cLk p.3)),.ext false (.s false 1 p.4.length (cT p.4))])):=by kernel_rfl
theorem zRi(c:Cir)(p:Pln)(lF lA:List (List Nat))(ss:List Int)(cs:List (Int×Int×Int×Int))(n:Nat)(i M:Nat)(K:List It→St→Prop)(R:SV→List HO→Prop):W (xwp Tryz.prog X (qUf.add 34 qMz qAy) [(49,[])] 60 (qO Tryz.f13 [] [⟨[0,1,0,1,1,1,1,1],[12,11,10,6,5],[]⟩,⟨[0,1,0,1,1,1,1,1,1,1],[14,13,11,10,6,5],[]⟩,⟨[0,0,1,1,0,0,1,0,0,1,0,1,1,1,1,1,1,1],[16,15,14,13,11,10,6,5],[]⟩,⟨[0,1,0,1,1,0,0,0,0,1,1,0,0,1,0,0,1,0,1,1,1,1,1,1,1],[18,17,16,15,14,13,11,10,6,5],[]⟩,⟨[0,1,1,1,1,1,0,0,1,0,0,1,0,1,1,1,1,1,1,1],[19,16,15,14,13,11,10,6,5],[]⟩,⟨[0,1,0,1,1,1,1,1,1,1,1],[21,13,11,6,5],[]⟩]) [] (.at [0,0,1,0,1,1,1,1,1,1,1,1]::.rnd [0,0,1,0,1,1,1,1,1,1,1,1] M::[.blk 10,.at [1,1,1,1,1,1,1,1,1]]) (St.mk [(21,.v (qA (i:Int))),(13,.x 0 []),(11,.p 1 0),(6,.p 2 0),(5,.p 3 0)] [.ext false (.s false 1 ss.length (cI ss)),.cells [.x 4 [],.x 5 [],.x 6 [],.o 7] 42,.cells [.v (Value.slice none 0 0),.v (Value.slice none 0 0),.v (Value.slice none 0 0),.v (Value.slice none 0 0)] 42,.cells [.x 8 [],.x 9 [],.x 10 [],.x 11 []] 33,.ext false (.s false 1 lF.length (cT lF)),.ext false (.s false 1 lA.length (cT lA)),.ext false (.s false 1 p.4.length (cT p.4)),.rowc 101 4 n (.fn (cP cs)),.ext false (.s false 2 p.1.length (cRg p.1)),.ext false (.s false 2 p.2.length (cTa p.2)),.ext false (.s false 6 p.3.length (cLk p.3)),.ext false (.s false 1 p.4.length (cT p.4))]) K R)=W (bif decide ((↑i:Int)<(↑p.3.length:Int)) then(∀ M:Mem,(0:Int)≤(↑i:Int)∧(↑i:Int)<(↑p.3.length:Int))∧(∀ M:Mem,i<List.length p.3)∧(∀ M:Mem,i<List.length p.3)∧(∀ M:Mem,(0:Int)≤(↑i:Int)∧(↑i:Int)<(↑p.3.length:Int))∧(∀ M:Mem,i<List.length p.3)∧(∀ M:Mem,i<List.length p.3)∧bif decide ((gLk p.3 i).1.1<(0:Int)) then(∀ M:Mem,0+2≤2)∧bif decide ((gLk p.3 i).2.1<(0:Int)) then(∀ M:Mem,0+2≤2)∧(∀ M:Mem,(n+1)*32≤140737488355328∧n+1≤140737488355328)∧(∀ M:Mem,3+1≤4)∧K [.rnd [0,0,1,0,1,1,1,1,1,1,1,1] M,.blk 10,.at [1,1,1,1,1,1,1,1,1]] (St.mk [(21,.v (qA (IntKind.wrap .i64 ((↑i:Int)+(1:Int))))),(13,.x 0 []),(11,.p 1 0),(6,.p 2 0),(5,.p 3 0)] [.ext false (.s false 1 ss.length (cI ss)),.cells [.x 4 [],.x 5 [],.x 6 [],.o 7] 42,.cells [.v (Value.slice none 0 0),.v (Value.slice none 0 0),.v (Value.slice none 0 0),.v (Value.slice none 0 0)] 42,.cells [.x 8 [],.x 9 [],.x 10 [],.x 11 []] 33,.ext false (.s false 1 lF.length (cT lF)),.ext false (.s false 1 lA.length (cT lA)),.ext false (.s false 1 p.4.length (cT p.4)),.rowc 101 4 (n+1) (.app n (.fn (cP cs)) (.lit 4 [.v (qA (gLk p.3 i).1.2.1),.v (qA (gLk p.3 i).1.2.2),.v (qA (gLk p.3 i).2.2.1),.v (qA (gLk p.3 i).2.2.2)])),.ext false (.s false 2 p.1.length (cRg p.1)),.ext false (.s false 2 p.2.length (cTa p.2)),.ext false (.s false 6 p.3.length (cLk p.3)),.ext false (.s false 1 p.4.length (cT p.4))]) else(∀ M:Mem,(0:Int)≤(gLk p.3 i).2.1∧(gLk p.3 i).2.1<(↑ss.length:Int))∧(∀ M:Mem,Int.toNat (gLk p.3 i).2.1<List.length ss)∧(∀ M:Mem,0+2≤2)∧(∀ M:Mem,(n+1)*32≤140737488355328∧n+1≤140737488355328)∧(∀ M:Mem,3+1≤4)∧K [.rnd [0,0,1,0,1,1,1,1,1,1,1,1] M,.blk 10,.at [1,1,1,1,1,1,1,1,1]] (St.mk [(21,.v (qA (IntKind.wrap .i64 ((↑i:Int)+(1:Int))))),(13,.x 0 []),(11,.p 1 0),(6,.p 2 0),(5,.p 3 0)] [.ext false (.s false 1 ss.length (cI ss)),.cells [.x 4 [],.x 5 [],.x 6 [],.o 7] 42,.cells [.v (Value.slice none 0 0),.v (Value.slice none 0 0),.v (Value.slice none 0 0),.v (Value.slice none 0 0)] 42,.cells [.x 8 [],.x 9 [],.x 10 [],.x 11 []] 33,.ext false (.s false 1 lF.length (cT lF)),.ext false (.s false 1 lA.length (cT lA)),.ext false (.s false 1 p.4.length (cT p.4)),.rowc 101 4 (n+1) (.app n (.fn (cP cs)) (.lit 4 [.v (qA (gLk p.3 i).1.2.1),.v (qA (gLk p.3 i).1.2.2),.v (qA (gLk p.3 i).2.2.1),.v (qA (IntKind.wrap .i64 (gI ss (Int.toNat (gLk p.3 i).2.1)+(gLk p.3 i).2.2.2)))])),.ext false (.s false 2 p.1.length (cRg p.1)),.ext false (.s false 2 p.2.length (cTa p.2)),.ext false (.s false 6 p.3.length (cLk p.3)),.ext false (.s false 1 p.4.length (cT p.4))]) else(∀ M:Mem,(0:Int)≤(gLk p.3 i).1.1∧(gLk p.3 i).1.1<(↑ss.length:Int))∧(∀ M:Mem,Int.toNat (gLk p.3 i).1.1<List.length ss)∧(∀ M:Mem,0+2≤2)∧bif decide ((gLk p.3 i).2.1<(0:Int)) then(∀ M:Mem,0+2≤2)∧(∀ M:Mem,(n+1)*32≤140737488355328∧n+1≤140737488355328)∧(∀ M:Mem,3+1≤4)∧K [.rnd [0,0,1,0,1,1,1,1,1,1,1,1] M,.blk 10,.at [1,1,1,1,1,1,1,1,1]] (St.mk [(21,.v (qA (IntKind.wrap .i64 ((↑i:Int)+(1:Int))))),(13,.x 0 []),(11,.p 1 0),(6,.p 2 0),(5,.p 3 0)] [.ext false (.s false 1 ss.length (cI ss)),.cells [.x 4 [],.x 5 [],.x 6 [],.o 7] 42,.cells [.v (Value.slice none 0 0),.v (Value.slice none 0 0),.v (Value.slice none 0 0),.v (Value.slice none 0 0)] 42,.cells [.x 8 [],.x 9 [],.x 10 [],.x 11 []] 33,.ext false (.s false 1 lF.length (cT lF)),.ext false (.s false 1 lA.length (cT lA)),.ext false (.s false 1 p.4.length (cT p.4)),.rowc 101 4 (n+1) (.app n (.fn (cP cs)) (.lit 4 [.v (qA (gLk p.3 i).1.2.1),.v (qA (IntKind.wrap .i64 (gI ss (Int.toNat (gLk p.3 i).1.1)+(gLk p.3 i).1.2.2))),.v (qA (gLk p.3 i).2.2.1),.v (qA (gLk p.3 i).2.2.2)])),.ext false (.s false 2 p.1.length (cRg p.1)),.ext false (.s false 2 p.2.length (cTa p.2)),.ext false (.s false 6 p.3.length (cLk p.3)),.ext false (.s false 1 p.4.length (cT p.4))]) else(∀ M:Mem,(0:Int)≤(gLk p.3 i).2.1∧(gLk p.3 i).2.1<(↑ss.length:Int))∧(∀ M:Mem,Int.toNat (gLk p.3 i).2.1<List.length ss)∧(∀ M:Mem,0+2≤2)∧(∀ M:Mem,(n+1)*32≤140737488355328∧n+1≤140737488355328)∧(∀ M:Mem,3+1≤4)∧K [.rnd [0,0,1,0,1,1,1,1,1,1,1,1] M,.blk 10,.at [1,1,1,1,1,1,1,1,1]] (St.mk [(21,.v (qA (IntKind.wrap .i64 ((↑i:Int)+(1:Int))))),(13,.x 0 []),(11,.p 1 0),(6,.p 2 0),(5,.p 3 0)] [.ext false (.s false 1 ss.length (cI ss)),.cells [.x 4 [],.x 5 [],.x 6 [],.o 7] 42,.cells [.v (Value.slice none 0 0),.v (Value.slice none 0 0),.v (Value.slice none 0 0),.v (Value.slice none 0 0)] 42,.cells [.x 8 [],.x 9 [],.x 10 [],.x 11 []] 33,.ext false (.s false 1 lF.length (cT lF)),.ext false (.s false 1 lA.length (cT lA)),.ext false (.s false 1 p.4.length (cT p.4)),.rowc 101 4 (n+1) (.app n (.fn (cP cs)) (.lit 4 [.v (qA (gLk p.3 i).1.2.1),.v (qA (IntKind.wrap .i64 (gI ss (Int.toNat (gLk p.3 i).1.1)+(gLk p.3 i).1.2.2))),.v (qA (gLk p.3 i).2.2.1),.v (qA (IntKind.wrap .i64 (gI ss (Int.toNat (gLk p.3 i).2.1)+(gLk p.3 i).2.2.2)))])),.ext false (.s false 2 p.1.length (cRg p.1)),.ext false (.s false 2 p.2.length (cTa p.2)),.ext false (.s false 6 p.3.length (cLk p.3)),.ext false (.s false 1 p.4.length (cT p.4))]) else(∀ M:Mem,4≤4)∧R (.tup [.agg [.x 0 [],.x 1 [],.x 2 [],.o 3],.x 4 [],.v (qA 0)]) [.ext false (.s false 1 lF.length (cT lF)),.ext false (.s false 1 lA.length (cT lA)),.ext false (.s false 1 p.4.length (cT p.4)),.rowc 101 4 n (.fn (cP cs)),.ext false (.s false 1 ss.length (cI ss))]):=by kernel_rfl
theorem zEi(ss:List Int){x:Int×Int×Int}(h:x.1<0):xF ss x=(x.2.1,x.2.2):=by rw[xF,if_neg (by omega)]
theorem zCb(ss:List Int){x:Int×Int×Int}(h:¬ x.1<0):xF ss x=(x.2.1,gI ss x.1.toNat+x.2.2):=by rw[xF,if_pos (by omega),Int.add_comm]
theorem qPt(c:Cir)(p:Pln)(hp:p.ok)(u:Int)(hR:plR c p u)(hu:0≤u∧u≤28)(lF lA:List (List Nat))(ss:List Int)(hsl:ss.length=p.rg.length)(hsb:∀ j,j<p.rg.length→0≤gI ss j∧gI ss j+(gRg p.rg j).1≤u)(Q:SV→List HO→Prop)(hq:Q (SV.tup [SV.agg [SV.x 0 [],SV.x 1 [],SV.x 2 [],SV.o 3],SV.x 4 [],SV.v (qA (0:Int))]) [HO.ext false (qB.s false 1 lF.length (cT lF)),HO.ext false (qB.s false 1 lA.length (cT lA)),HO.ext false (qB.s false 1 p.is.length (cT p.is)),HO.rowc 101 4 (yR ss p.lk).length (Ct.fn (cP (yR ss p.lk))),HO.ext false (qB.s false 1 ss.length (cI ss))]):∀(d i:Nat) (cs:List (Int×Int×Int×Int)),i+d=p.lk.length→cs=yR ss (p.lk.take i) →
  FOk Tryz.prog Tryz.f13 Q (.rnd [0,0,1,0,1,1,1,1,1,1,1,1] (d+1)::[.blk 10,.at [1,1,1,1,1,1,1,1,1]]) (St.mk [(21,SV.v (qA (i:Int))),(13,SV.x 0 []),(11,SV.p 1 0),(6,SV.p 2 0),(5,SV.p 3 0)] [HO.ext false (qB.s false 1 ss.length (cI ss)),HO.cells [SV.x 4 [],SV.x 5 [],SV.x 6 [],SV.o 7] 42,HO.cells [SV.v (Value.slice none 0 0),SV.v (Value.slice none 0 0),SV.v (Value.slice none 0 0),SV.v (Value.slice none 0 0)] 42,HO.cells [SV.x 8 [],SV.x 9 [],SV.x 10 [],SV.x 11 []] 33,HO.ext false (qB.s false 1 lF.length (cT lF)),HO.ext false (qB.s false 1 lA.length (cT lA)),HO.ext false (qB.s false 1 (List.length p.4) (cT p.4)),HO.rowc 101 4 cs.length (Ct.fn (cP cs)),HO.ext false (qB.s false 2 (List.length p.1) (cRg p.1)),HO.ext false (qB.s false 2 (List.length p.2) (cTa p.2)),HO.ext false (qB.s false 6 (List.length p.3) (cLk p.3)),HO.ext false (qB.s false 1 (List.length p.4) (cT p.4))])
 | 0,i,cs,hd,hc=>by
  refine FOk.rnd (qC hm 60 ((zRi c p lF lA ss cs cs.length i 0 _ _).mpr ⟨?_⟩))
  rw[qD,if_neg (by omega)]
  rw[show i=p.lk.length by omega,List.take_length] at hc
  subst hc
  exact And.intro (fun _=>by omega) hq
 | d+1,i,cs,hd,hc=>by
  have hi:i<p.lk.length:=by omega
  have hl:=hR.nl
  obtain⟨ha,hb⟩:=hR.l _ (qJr hi)
  have hcl:cs.length=i:=by rw[hc,yR,List.length_map,List.length_take]; omega
  have a1:=ha.r0
  have a2:=ha.r1
  have a3:=ha.o0
  have a5:=ha.o2
  have b1:=hb.r0
  have b2:=hb.r1
  have b3:=hb.o0
  have b5:=hb.o2
  have e1:(yR ss (p.lk.take (i+1)))=cs++[((xF ss (gLk p.lk i).1).1,(xF ss (gLk p.lk i).1).2,(xF ss (gLk p.lk i).2).1,(xF ss (gLk p.lk i).2).2)]:=by rw[qKp hi,hc,yR,yR,List.map_append]; rfl
  have ih:=qPt c p hp u hR hu lF lA ss hsl hsb Q hq d (i+1) (yR ss (p.lk.take (i+1))) (by omega) rfl
  rw[e1] at ih
  refine FOk.rnd (qC hm 60 ((zRi c p lF lA ss cs cs.length i (d+1) _ _).mpr ⟨?_⟩))
  rw[qD,if_pos (by omega),qK _ (by omega)]
  repeat' (refine And.intro (fun _=>by omega) ?_)
  rw[qD]
  refine qG (fun h1=>?_) (fun h1=>?_)
  ·repeat' (refine And.intro (fun _=>by omega) ?_)
   rw[qD]
   rw[zEi ss h1] at ih
   refine qG (fun h2=>?_) (fun h2=>?_)
   ·rw[zEi ss h2] at ih
    repeat' (refine And.intro (fun _=>by omega) ?_)
    exact FOk.cv ih ⟨HE.refl _,HE.refl _,HE.refl _,HE.refl _,HE.refl _,HE.refl _,HE.refl _,⟨rfl,rfl,by rw[List.length_append]; rfl,qAz _ _ _ _ rfl⟩,HE.refl _,HE.refl _,HE.refl _,HE.refl _,trivial⟩
   ·rw[zCb ss h2] at ih
    have g2:=hsb (gLk p.lk i).2.1.toNat (by omega)
    repeat' (refine And.intro (fun _=>by omega) ?_)
    rw[zE (gI ss (Int.toNat (gLk p.3 i).2.1)+(gLk p.3 i).2.2.2) (by omega)]
    exact FOk.cv ih ⟨HE.refl _,HE.refl _,HE.refl _,HE.refl _,HE.refl _,HE.refl _,HE.refl _,⟨rfl,rfl,by rw[List.length_append]; rfl,qAz _ _ _ _ rfl⟩,HE.refl _,HE.refl _,HE.refl _,HE.refl _,trivial⟩
  ·have g1:=hsb (gLk p.lk i).1.1.toNat (by omega)
   repeat' (refine And.intro (fun _=>by omega) ?_)
   rw[qD]
   rw[zCb ss h1] at ih
   refine qG (fun h2=>?_) (fun h2=>?_)
   ·rw[zEi ss h2] at ih
    repeat' (refine And.intro (fun _=>by omega) ?_)
    rw[zE (gI ss (Int.toNat (gLk p.3 i).1.1)+(gLk p.3 i).1.2.2) (by omega)]
    exact FOk.cv ih ⟨HE.refl _,HE.refl _,HE.refl _,HE.refl _,HE.refl _,HE.refl _,HE.refl _,⟨rfl,rfl,by rw[List.length_append]; rfl,qAz _ _ _ _ rfl⟩,HE.refl _,HE.refl _,HE.refl _,HE.refl _,trivial⟩
   ·rw[zCb ss h2] at ih
    have g2:=hsb (gLk p.lk i).2.1.toNat (by omega)
    repeat' (refine And.intro (fun _=>by omega) ?_)
    rw[zE (gI ss (Int.toNat (gLk p.3 i).1.1)+(gLk p.3 i).1.2.2) (by omega),zE (gI ss (Int.toNat (gLk p.3 i).2.1)+(gLk p.3 i).2.2.2) (by omega)]
    exact FOk.cv ih ⟨HE.refl _,HE.refl _,HE.refl _,HE.refl _,HE.refl _,HE.refl _,HE.refl _,⟨rfl,rfl,by rw[List.length_append]; rfl,qAz _ _ _ _ rfl⟩,HE.refl _,HE.refl _,HE.refl _,HE.refl _,trivial⟩
structure zSe (c:Cir) (u:Int) (lF lA:List (List Nat)):Prop where
 lf:lF.length=c.fx.toNat
 la:lA.length=c.ad.toNat
 bf:∀ q,((gT lF q).length:Int)≤u
 ba:∀ q,((gT lA q).length:Int)≤u
 tf:qEz lF
 ta:qEz lA
theorem qIj(c:Cir)(hcb:c.fx.toNat≤1000000∧c.ad.toNat≤1000000)(p:Pln)(hp:p.ok)(u:Int)(hR:plR c p u)(hu:0≤u∧u≤28)(ss:List Int)(m i:Nat)(hi:i<p.rg.length)(hmb:m≤1000000)(a:Int)(ha:0≤a∧a+(gRg p.rg i).1≤u)(M2:Nat)(Q:SV→List HO→Prop)(Z:List (List Nat)×List (List Nat))(hq:FOk Tryz.prog Tryz.f13 Q (.rnd [0,0,1,0,1,1,1,1,1,1,1] M2::[.blk 2,.at [1,1,1,1,1,1,1,1]]) (St.mk [(14,SV.v (qA ((i+1:Nat):Int))),(13,SV.o 0),(11,SV.p 1 0),(10,SV.v (qA u)),(6,SV.p 2 0),(5,SV.p 3 0)] [HO.rowc 3 1 m (Ct.fn (cI ss)),HO.cells [SV.x 4 [],SV.x 5 [],SV.x 6 [],SV.v (Value.slice none 0 0)] 42,HO.cells [SV.v (Value.slice none 0 0),SV.v (Value.slice none 0 0),SV.v (Value.slice none 0 0),SV.v (Value.slice none 0 0)] 42,HO.cells [SV.x 7 [],SV.x 8 [],SV.x 9 [],SV.x 10 []] 33,HO.ext false (qB.s false 1 (List.length Z.1) (cT Z.1)),HO.ext false (qB.s false 1 (List.length Z.2) (cT Z.2)),HO.ext false (qB.s false 1 (List.length p.4) (cT p.4)),HO.ext false (qB.s false 2 (List.length p.1) (cRg p.1)),HO.ext false (qB.s false 2 (List.length p.2) (cTa p.2)),HO.ext false (qB.s false 6 (List.length p.3) (cLk p.3)),HO.ext false (qB.s false 1 (List.length p.4) (cT p.4))])):∀(d j:Nat) (lF lA:List (List Nat)),j+d=(gRg p.rg i).2.length→zSe c u lF lA→qAv a ((gRg p.rg i).2.drop j) lF lA=Z →
  FOk Tryz.prog Tryz.f13 Q (.rnd [0,0,1,1,1,1,1,0,0,1,0,0,1,0,1,1,1,1,1,1,1] (d+1)::[.blk 8,.blk 3,.at [1,1,0,0,1,0,1,1,1,1,1,1,1],.rnd [0,0,1,0,1,1,1,1,1,1,1] M2,.blk 2,.at [1,1,1,1,1,1,1,1]]) (St.mk [(19,SV.v (qA (j:Int))),(16,SV.v (qA a)),(15,SV.p 0 0),(14,SV.v (qA (↑i:Int))),(13,SV.o 1),(11,SV.p 2 0),(10,SV.v (qA u)),(6,SV.p 3 0),(5,SV.p 4 0)] [HO.cells [SV.v (qA (gRg p.1 i).1),SV.x 5 [(2,i,1)]] 50,HO.rowc 3 1 m (Ct.fn (cI ss)),HO.cells [SV.x 6 [],SV.x 7 [],SV.x 8 [],SV.v (Value.slice none 0 0)] 42,HO.cells [SV.v (Value.slice none 0 0),SV.v (Value.slice none 0 0),SV.v (Value.slice none 0 0),SV.v (Value.slice none 0 0)] 42,HO.cells [SV.x 5 [],SV.x 9 [],SV.x 10 [],SV.x 11 []] 33,HO.ext false (qB.s false 2 (List.length p.1) (cRg p.1)),HO.ext false (qB.s false 1 lF.length (cT lF)),HO.ext false (qB.s false 1 lA.length (cT lA)),HO.ext false (qB.s false 1 (List.length p.4) (cT p.4)),HO.ext false (qB.s false 2 (List.length p.2) (cTa p.2)),HO.ext false (qB.s false 6 (List.length p.3) (cLk p.3)),HO.ext false (qB.s false 1 (List.length p.4) (cT p.4))])
 | 0,j,lF,lA,hd,hc,hz=>by
  have hb:=hp.r.2
  refine FOk.rnd (qC hm 60 ((zQk c p u lF lA ss m i a j 0 M2 _ _).mpr ⟨?_⟩))
  refine And.intro (fun _=>hi) ?_
  rw[qD,if_neg (by omega),qK i (by omega)]
  rw[List.drop_eq_nil_of_le (by omega)] at hz
  subst hz
  exact hq
 | d+1,j,lF,lA,hd,hc,hz=>by
  have hj:j<(gRg p.rg i).2.length:=by omega
  have hb:=hp.r.2
  have h64:=(hR.r _ (zR hi)).n
  have hx:=(hR.r _ (zR hi)).x _ (qJv hj)
  have hv:=((hp.r.1 _ (zR hi)).2.1 _ (qJv hj)).2.2.2
  have c0:=hx.c0
  have o0:=hx.o0
  have o1:=hx.o1
  rw[qAk hj,qAv] at hz
  refine FOk.rnd (qC hm 60 ((zQk c p u lF lA ss m i a j (d+1) M2 _ _).mpr ⟨?_⟩))
  refine And.intro (fun _=>hi) ?_
  rw[qD,if_pos (by omega),qK j (by omega),zE (a+(gPt (gRg p.1 i).2 j).3) (by omega),zC]
  repeat' (refine And.intro (fun _=>by omega) ?_)
  refine qG (fun h2=>?_) (fun h2=>?_)
  ·rw[if_pos h2] at hz
   have hk:(Int.toNat (gPt (gRg p.rg i).2 j).co)<lF.length:=by have:=hx.k; have:=hc.lf; omega
   have hcl:=hc.bf (Int.toNat (gPt (gRg p.rg i).2 j).co)
   have ih:=qIj c hcb p hp u hR hu ss m i hi hmb a ha M2 Q Z hq d (j+1) _ _ (by omega) ⟨by rw[List.length_set]; exact hc.lf,hc.la,qAh hk hc.bf (by omega),hc.ba,qGe hc.tf _ _ _ hv,hc.ta⟩ hz
   rw[List.length_set] at ih
   refine qYv (qRm hc.tf (fun q=>by have:=hc.bf q; omega) (by rw[hc.lf]; exact hcb.1)) (by omega) (by omega) (by omega) ?_
   refine And.intro (fun _=>by omega) ?_
   refine FOk.unfocus 6 12 _ rfl rfl (by decide) ?_
   rw[qEn hk _]
   refine FOk.frzTb 13 rfl ?_
   exact FOk.norm (ks:=[19,16,15,14,13,11,10,6,5]) (nl:=[]) (by kernel_rfl) ih
  ·rw[if_neg h2] at hz
   have hk:(Int.toNat (gPt (gRg p.rg i).2 j).co)<lA.length:=by have:=hx.k; have:=hc.la; omega
   have hcl:=hc.ba (Int.toNat (gPt (gRg p.rg i).2 j).co)
   have ih:=qIj c hcb p hp u hR hu ss m i hi hmb a ha M2 Q Z hq d (j+1) _ _ (by omega) ⟨hc.lf,by rw[List.length_set]; exact hc.la,hc.bf,qAh hk hc.ba (by omega),hc.tf,qGe hc.ta _ _ _ hv⟩ hz
   rw[List.length_set] at ih
   refine qYv (qRm hc.ta (fun q=>by have:=hc.ba q; omega) (by rw[hc.la]; exact hcb.2)) (by omega) (by omega) (by omega) ?_
   refine And.intro (fun _=>by omega) ?_
   refine FOk.unfocus 7 12 _ rfl rfl (by decide) ?_
   rw[qEn hk _]
   refine FOk.frzTb 13 rfl ?_
   exact FOk.norm (ks:=[19,16,15,14,13,11,10,6,5]) (nl:=[]) (by kernel_rfl) ih
theorem qOy(c:Cir)(p:Pln)(hp:p.ok)(u:Int)(hR:plR c p u)(hu:0≤u∧u≤28)(lF lA:List (List Nat))(ss:List Int)(i:Nat)(hi:i<p.rg.length)(hsl:ss.length=i)(hsb:∀ j,j<i→0≤gI ss j∧gI ss j+(gRg p.rg j).1≤u)(a:Int)(ha:0≤a∧a+(gRg p.rg i).1≤u)(M2 M3:Nat)(Q:SV→List HO→Prop)(hT:(∀ j,j<i→qLr (gRg p.rg i).1 a (gRg p.rg i).2 (gRg p.rg j).1 (gI ss j) (gRg p.rg j).2=false)→FOk Tryz.prog Tryz.f13 Q (.at [0,1,1,1,1,1,0,0,1,0,0,1,0,1,1,1,1,1,1,1]::[.blk 8,.blk 3,.at [1,1,0,0,1,0,1,1,1,1,1,1,1],.rnd [0,0,1,0,1,1,1,1,1,1,1] M2,.blk 2,.at [1,1,1,1,1,1,1,1]]) (St.mk [(19,SV.v (qA (0:Int))),(16,SV.v (qA a)),(15,SV.p 0 0),(14,SV.v (qA (↑i:Int))),(13,SV.o 1),(11,SV.p 2 0),(10,SV.v (qA u)),(6,SV.p 3 0),(5,SV.p 4 0)] [HO.cells [SV.v (qA (gRg p.1 i).1),SV.x 5 [(2,i,1)]] 50,HO.rowc 3 1 (ss.length+1) (Ct.app ss.length (Ct.fn (cI ss)) (Ct.lit 1 [qB.v (qA a)])),HO.cells [SV.x 6 [],SV.x 7 [],SV.x 8 [],SV.v (Value.slice none 0 0)] 42,HO.cells [SV.v (Value.slice none 0 0),SV.v (Value.slice none 0 0),SV.v (Value.slice none 0 0),SV.v (Value.slice none 0 0)] 42,HO.cells [SV.x 5 [],SV.x 9 [],SV.x 10 [],SV.x 11 []] 33,HO.ext false (qB.s false 2 (List.length p.1) (cRg p.1)),HO.ext false (qB.s false 1 lF.length (cT lF)),HO.ext false (qB.s false 1 lA.length (cT lA)),HO.ext false (qB.s false 1 (List.length p.4) (cT p.4)),HO.ext false (qB.s false 2 (List.length p.2) (cTa p.2)),HO.ext false (qB.s false 6 (List.length p.3) (cLk p.3)),HO.ext false (qB.s false 1 (List.length p.4) (cT p.4))]))(hF:¬ (∀ j,j<i→qLr (gRg p.rg i).1 a (gRg p.rg i).2 (gRg p.rg j).1 (gI ss j) (gRg p.rg j).2=false)→FOk Tryz.prog Tryz.f13 Q (.rnd [0,0,0,1,1,0,0,1,0,0,1,0,1,1,1,1,1,1,1] M3::[.blk 4,.at [1,1,1,0,0,1,0,0,1,0,1,1,1,1,1,1,1],.blk 3,.at [1,1,0,0,1,0,1,1,1,1,1,1,1],.rnd [0,0,1,0,1,1,1,1,1,1,1] M2,.blk 2,.at [1,1,1,1,1,1,1,1]]) (St.mk [(16,SV.v (qA (a+1))),(15,SV.p 0 0),(14,SV.v (qA (↑i:Int))),(13,SV.o 1),(11,SV.p 2 0),(10,SV.v (qA u)),(6,SV.p 3 0),(5,SV.p 4 0)] [HO.cells [SV.v (qA (gRg p.1 i).1),SV.x 5 [(2,i,1)]] 50,HO.rowc 3 1 ss.length (Ct.fn (cI ss)),HO.cells [SV.x 6 [],SV.x 7 [],SV.x 8 [],SV.v (Value.slice none 0 0)] 42,HO.cells [SV.v (Value.slice none 0 0),SV.v (Value.slice none 0 0),SV.v (Value.slice none 0 0),SV.v (Value.slice none 0 0)] 42,HO.cells [SV.x 5 [],SV.x 9 [],SV.x 10 [],SV.x 11 []] 33,HO.ext false (qB.s false 2 (List.length p.1) (cRg p.1)),HO.ext false (qB.s false 1 lF.length (cT lF)),HO.ext false (qB.s false 1 lA.length (cT lA)),HO.ext false (qB.s false 1 (List.length p.4) (cT p.4)),HO.ext false (qB.s false 2 (List.length p.2) (cTa p.2)),HO.ext false (qB.s false 6 (List.length p.3) (cLk p.3)),HO.ext false (qB.s false 1 (List.length p.4) (cT p.4))])):∀(d j:Nat) (b:Bool),j+d=i→(b=true↔∀ j',j'<j→qLr (gRg p.rg i).1 a (gRg p.rg i).2 (gRg p.rg j').1 (gI ss j') (gRg p.rg j').2=false) →
  FOk Tryz.prog Tryz.f13 Q (.rnd [0,0,1,0,1,1,0,0,0,0,1,1,0,0,1,0,0,1,0,1,1,1,1,1,1,1] (d+1)::[.blk 6,.at [1,1,1,0,0,0,0,1,1,0,0,1,0,0,1,0,1,1,1,1,1,1,1],.blk 5,.rnd [0,0,0,1,1,0,0,1,0,0,1,0,1,1,1,1,1,1,1] M3,.blk 4,.at [1,1,1,0,0,1,0,0,1,0,1,1,1,1,1,1,1],.blk 3,.at [1,1,0,0,1,0,1,1,1,1,1,1,1],.rnd [0,0,1,0,1,1,1,1,1,1,1] M2,.blk 2,.at [1,1,1,1,1,1,1,1]]) (St.mk [(18,SV.v (qA (j:Int))),(17,SV.v (Value.bool b)),(16,SV.v (qA a)),(15,SV.p 0 0),(14,SV.v (qA (↑i:Int))),(13,SV.o 1),(11,SV.p 2 0),(10,SV.v (qA u)),(6,SV.p 3 0),(5,SV.p 4 0)] [HO.cells [SV.v (qA (gRg p.1 i).1),SV.x 5 [(2,i,1)]] 50,HO.rowc 3 1 ss.length (Ct.fn (cI ss)),HO.cells [SV.x 6 [],SV.x 7 [],SV.x 8 [],SV.v (Value.slice none 0 0)] 42,HO.cells [SV.v (Value.slice none 0 0),SV.v (Value.slice none 0 0),SV.v (Value.slice none 0 0),SV.v (Value.slice none 0 0)] 42,HO.cells [SV.x 5 [],SV.x 9 [],SV.x 10 [],SV.x 11 []] 33,HO.ext false (qB.s false 2 (List.length p.1) (cRg p.1)),HO.ext false (qB.s false 1 lF.length (cT lF)),HO.ext false (qB.s false 1 lA.length (cT lA)),HO.ext false (qB.s false 1 (List.length p.4) (cT p.4)),HO.ext false (qB.s false 2 (List.length p.2) (cTa p.2)),HO.ext false (qB.s false 6 (List.length p.3) (cLk p.3)),HO.ext false (qB.s false 1 (List.length p.4) (cT p.4))])
 | 0,j,b,hd,hb=>by
  have hb2:=hp.r.2
  have h64:=hR.nr
  have w1:=(hR.r _ (zR hi)).w
  obtain rfl:j=i:=by omega
  refine FOk.rnd (qC hm 60 ((zRf c p u lF lA ss ss.length j a b j 0 M2 M3 _ _).mpr ⟨?_⟩))
  rw[qD,if_neg (by omega)]
  refine qJ (fun h=>aI (hT (hb.1 h))) (fun h=>?_)
  rw[zE (a+1) (by omega)]
  exact hF fun hn=>by rw[hb.2 hn] at h; cases h
 | d+1,j,b,hd,hb=>by
  have hj:j<p.rg.length:=by omega
  have hb2:=hp.r.2
  have h64:=hR.nr
  have w1:=(hR.r _ (zR hi)).w
  have w2:=(hR.r _ (zR hj)).w
  have n1:=(hR.r _ (zR hi)).n
  have n2:=(hR.r _ (zR hj)).n
  have r2:=hsb j (by omega)
  have ih:=fun b'=>qOy c p hp u hR hu lF lA ss i hi hsl hsb a ha M2 M3 Q hT hF d (j+1) b' (by omega)
  refine FOk.rnd (qC hm 60 ((zRf c p u lF lA ss ss.length i a b j (d+1) M2 M3 _ _).mpr ⟨?_⟩))
  rw[qD,if_pos (by omega),qK j (by omega)]
  repeat' (refine And.intro (fun _=>by omega) ?_)
  refine zGg _ _ (by omega) (by omega) (by omega) ?_
  refine qJ (fun h=>?_) (fun h=>?_)
  ·refine ih false ⟨fun h2=>(by cases h2),fun h2=>?_⟩
   rw[h2 j (by omega)] at h; cases h
  ·refine ih b ?_
   rw[hb]
   constructor
   ·intro h2 j' hj'
    rcases Nat.lt_or_ge j' j with h3 | h3
    ·exact h2 j' h3
    ·obtain rfl:j'=j:=by omega
     exact h
   ·exact fun h2 j' hj'=>h2 j' (by omega)
theorem qOl(c:Cir)(p:Pln)(hp:p.ok)(u:Int)(hR:plR c p u)(hu:0≤u∧u≤28)(lF lA:List (List Nat))(ss:List Int)(i:Nat)(hi:i<p.rg.length)(hsl:ss.length=i)(hsb:∀ j,j<i→0≤gI ss j∧gI ss j+(gRg p.rg j).1≤u)(hwu:(gRg p.rg i).1≤u)(kl:List (List Int))(ml:List Int)(htk:zAo kl ml (p.rg.take i) ss)(M2:Nat)(Q:SV→List HO→Prop):∀(d:Nat) (a:Int),0≤a→a+d=u-(gRg p.rg i).1+1→(qFm kl ml (gRg p.rg i).1 u (gRg p.rg i).2 d a=none→Q (SV.tup [SV.agg [SV.v (Value.slice none 0 0),SV.v (Value.slice none 0 0),SV.v (Value.slice none 0 0),SV.v (Value.slice none 0 0)],SV.v (Value.slice none 0 0),SV.v (qA (141:Int))]) [])→(∀ a',qFm kl ml (gRg p.rg i).1 u (gRg p.rg i).2 d a=some a'→FOk Tryz.prog Tryz.f13 Q (.at [0,1,1,1,1,1,0,0,1,0,0,1,0,1,1,1,1,1,1,1]::[.blk 8,.blk 3,.at [1,1,0,0,1,0,1,1,1,1,1,1,1],.rnd [0,0,1,0,1,1,1,1,1,1,1] M2,.blk 2,.at [1,1,1,1,1,1,1,1]]) (St.mk [(19,SV.v (qA (0:Int))),(16,SV.v (qA a')),(15,SV.p 0 0),(14,SV.v (qA (↑i:Int))),(13,SV.o 1),(11,SV.p 2 0),(10,SV.v (qA u)),(6,SV.p 3 0),(5,SV.p 4 0)] [HO.cells [SV.v (qA (gRg p.1 i).1),SV.x 5 [(2,i,1)]] 50,HO.rowc 3 1 (ss.length+1) (Ct.app ss.length (Ct.fn (cI ss)) (Ct.lit 1 [qB.v (qA a')])),HO.cells [SV.x 6 [],SV.x 7 [],SV.x 8 [],SV.v (Value.slice none 0 0)] 42,HO.cells [SV.v (Value.slice none 0 0),SV.v (Value.slice none 0 0),SV.v (Value.slice none 0 0),SV.v (Value.slice none 0 0)] 42,HO.cells [SV.x 5 [],SV.x 9 [],SV.x 10 [],SV.x 11 []] 33,HO.ext false (qB.s false 2 (List.length p.1) (cRg p.1)),HO.ext false (qB.s false 1 lF.length (cT lF)),HO.ext false (qB.s false 1 lA.length (cT lA)),HO.ext false (qB.s false 1 (List.length p.4) (cT p.4)),HO.ext false (qB.s false 2 (List.length p.2) (cTa p.2)),HO.ext false (qB.s false 6 (List.length p.3) (cLk p.3)),HO.ext false (qB.s false 1 (List.length p.4) (cT p.4))])) →
  FOk Tryz.prog Tryz.f13 Q (.rnd [0,0,0,1,1,0,0,1,0,0,1,0,1,1,1,1,1,1,1] (d+1)::[.blk 4,.at [1,1,1,0,0,1,0,0,1,0,1,1,1,1,1,1,1],.blk 3,.at [1,1,0,0,1,0,1,1,1,1,1,1,1],.rnd [0,0,1,0,1,1,1,1,1,1,1] M2,.blk 2,.at [1,1,1,1,1,1,1,1]]) (St.mk [(16,SV.v (qA (a:Int))),(15,SV.p 0 0),(14,SV.v (qA (↑i:Int))),(13,SV.o 1),(11,SV.p 2 0),(10,SV.v (qA u)),(6,SV.p 3 0),(5,SV.p 4 0)] [HO.cells [SV.v (qA (gRg p.1 i).1),SV.x 5 [(2,i,1)]] 50,HO.rowc 3 1 ss.length (Ct.fn (cI ss)),HO.cells [SV.x 6 [],SV.x 7 [],SV.x 8 [],SV.v (Value.slice none 0 0)] 42,HO.cells [SV.v (Value.slice none 0 0),SV.v (Value.slice none 0 0),SV.v (Value.slice none 0 0),SV.v (Value.slice none 0 0)] 42,HO.cells [SV.x 5 [],SV.x 9 [],SV.x 10 [],SV.x 11 []] 33,HO.ext false (qB.s false 2 (List.length p.1) (cRg p.1)),HO.ext false (qB.s false 1 lF.length (cT lF)),HO.ext false (qB.s false 1 lA.length (cT lA)),HO.ext false (qB.s false 1 (List.length p.4) (cT p.4)),HO.ext false (qB.s false 2 (List.length p.2) (cTa p.2)),HO.ext false (qB.s false 6 (List.length p.3) (cLk p.3)),HO.ext false (qB.s false 1 (List.length p.4) (cT p.4))])
 | 0,a,h0,hd,hn,hs=>by
  have w1:=(hR.r _ (zR hi)).w
  refine FOk.rnd (qC hm 60 ((zMn c p u lF lA ss ss.length i a 0 M2 _ _).mpr ⟨?_⟩))
  rw[qD,if_neg (by omega),zE (u-(gRg p.1 i).1) (by omega),qD,if_pos (by omega)]
  exact aI (hn rfl)
 | d+1,a,h0,hd,hn,hs=>by
  have w1:=(hR.r _ (zR hi)).w
  have hlt:(p.rg.take i).length=i:=by rw[List.length_take]; omega
  have gt:∀ j,j<i→gRg (p.rg.take i) j=gRg p.rg j:=fun j hj=>by rw[gRg,gRg,List.getD_eq_getElem?_getD,List.getD_eq_getElem?_getD,List.getElem?_take,if_pos hj]
  have hfree:=zBf htk (w:=(gRg p.rg i).1) (s:=a) (ps:=(gRg p.rg i).2) (fun j hj=>by
   rw[hlt] at hj
   rw[gt j hj]
   exact⟨(hR.r _ (zR (l:=p.rg) (by omega))).w,(hsb j hj).1⟩) h0 w1 (by omega)
  rw[qFm] at hn hs
  refine FOk.rnd (qC hm 60 ((zMn c p u lF lA ss ss.length i a (d+1) M2 _ _).mpr ⟨?_⟩))
  rw[qD,if_neg (by omega),zE (u-(gRg p.1 i).1) (by omega),qD,if_neg (by omega)]
  refine FOk.loop (i+1) (by kernel_rfl) (qOy c p hp u hR hu lF lA ss i hi hsl hsb a ⟨h0,by omega⟩ M2 (d+1) Q (fun hT=>?_) (fun hF=>?_) i 0 true (by omega) ⟨fun _ j' hj'=>absurd hj' (Nat.not_lt_zero j'),fun _=>rfl⟩)
  ·have hno:¬ ((gRg p.rg i).2.any (tkB kl ml (yL (gRg p.rg i).1 a))=true):=fun h=>by
    obtain⟨j,hj,hc⟩:=hfree.1 h
    rw[hlt] at hj
    rw[gt j hj,hT j hj] at hc; cases hc
   rw[if_neg hno] at hs
   exact hs a rfl
  ·have hyes:(gRg p.rg i).2.any (tkB kl ml (yL (gRg p.rg i).1 a))=true:=by
    apply Classical.byContradiction
    intro hno
    refine hF fun j hj=>?_
    cases hc:qLr (gRg p.rg i).1 a (gRg p.rg i).2 (gRg p.rg j).1 (gI ss j) (gRg p.rg j).2 with
    | false=>rfl
    | true=>exact absurd (hfree.2 ⟨j,by rw[hlt]; exact hj,by rw[gt j hj]; exact hc⟩) hno
   rw[if_pos hyes] at hn hs
   exact qOl c p hp u hR hu lF lA ss i hi hsl hsb hwu kl ml htk M2 Q d (a+1) (by omega) (by omega) hn hs
theorem qVn{kl:List (List Int)}{ml:List Int}{w u:Int}{ps:List Pt}(h:u<w):qAu kl ml w u ps=none:=by rw[qAu,if_neg (by omega)]
theorem qOx(c:Cir)(hcb:c.fx.toNat≤1000000∧c.ad.toNat≤1000000)(p:Pln)(hp:p.ok)(u:Int)(hR:plR c p u)(hu:0≤u∧u≤28)(Q:SV→List HO→Prop):∀(d i:Nat) (lF lA:List (List Nat)) (ss:List Int) (kl:List (List Int)) (ml:List Int),i+d=p.rg.length→zSe c u lF lA→zAo kl ml (p.rg.take i) ss→(∀ j,j<i→0≤gI ss j∧gI ss j+(gRg p.rg j).1≤u)→(yQ u (p.rg.drop i) kl ml lF lA ss=none→Q (SV.tup [SV.agg [SV.v (Value.slice none 0 0),SV.v (Value.slice none 0 0),SV.v (Value.slice none 0 0),SV.v (Value.slice none 0 0)],SV.v (Value.slice none 0 0),SV.v (qA (141:Int))]) [])→(∀ z,yQ u (p.rg.drop i) kl ml lF lA ss=some z→FOk Tryz.prog Tryz.f13 Q (.at [0,1,0,1,1,1,1,1,1,1,1]::[.blk 10,.at [1,1,1,1,1,1,1,1,1]]) (St.mk [(21,SV.v (qA (0:Int))),(13,SV.o 0),(11,SV.p 1 0),(6,SV.p 2 0),(5,SV.p 3 0)] [HO.rowc 3 1 z.2.2.length (Ct.fn (cI z.2.2)),HO.cells [SV.x 4 [],SV.x 5 [],SV.x 6 [],SV.v (Value.slice none 0 0)] 42,HO.cells [SV.v (Value.slice none 0 0),SV.v (Value.slice none 0 0),SV.v (Value.slice none 0 0),SV.v (Value.slice none 0 0)] 42,HO.cells [SV.x 7 [],SV.x 8 [],SV.x 9 [],SV.x 10 []] 33,HO.ext false (qB.s false 1 (List.length z.1) (cT z.1)),HO.ext false (qB.s false 1 (List.length z.2.1) (cT z.2.1)),HO.ext false (qB.s false 1 (List.length p.4) (cT p.4)),HO.ext false (qB.s false 2 (List.length p.1) (cRg p.1)),HO.ext false (qB.s false 2 (List.length p.2) (cTa p.2)),HO.ext false (qB.s false 6 (List.length p.3) (cLk p.3)),HO.ext false (qB.s false 1 (List.length p.4) (cT p.4))])) →
  FOk Tryz.prog Tryz.f13 Q (.rnd [0,0,1,0,1,1,1,1,1,1,1] (d+1)::[.blk 2,.at [1,1,1,1,1,1,1,1]]) (St.mk [(14,SV.v (qA (i:Int))),(13,SV.o 0),(11,SV.p 1 0),(10,SV.v (qA u)),(6,SV.p 2 0),(5,SV.p 3 0)] [HO.rowc 3 1 ss.length (Ct.fn (cI ss)),HO.cells [SV.x 4 [],SV.x 5 [],SV.x 6 [],SV.v (Value.slice none 0 0)] 42,HO.cells [SV.v (Value.slice none 0 0),SV.v (Value.slice none 0 0),SV.v (Value.slice none 0 0),SV.v (Value.slice none 0 0)] 42,HO.cells [SV.x 7 [],SV.x 8 [],SV.x 9 [],SV.x 10 []] 33,HO.ext false (qB.s false 1 lF.length (cT lF)),HO.ext false (qB.s false 1 lA.length (cT lA)),HO.ext false (qB.s false 1 (List.length p.4) (cT p.4)),HO.ext false (qB.s false 2 (List.length p.1) (cRg p.1)),HO.ext false (qB.s false 2 (List.length p.2) (cTa p.2)),HO.ext false (qB.s false 6 (List.length p.3) (cLk p.3)),HO.ext false (qB.s false 1 (List.length p.4) (cT p.4))])
 | 0,i,lF,lA,ss,kl,ml,hd,hc,ht,hb,hn,hs=>by
  have hb2:=hp.r.2
  refine FOk.rnd (qC hm 60 ((zRa c p u lF lA ss ss.length i 0 _ _).mpr ⟨?_⟩))
  rw[qD,if_neg (by omega)]
  exact hs (lF,lA,ss) (by rw[List.drop_eq_nil_of_le (by omega)]; rfl)
 | d+1,i,lF,lA,ss,kl,ml,hd,hc,ht,hb,hn,hs=>by
  have hi:i<p.rg.length:=by omega
  have hb2:=hp.r.2
  have h64:=hR.nr
  have hr:=hR.r _ (zR hi)
  have w1:=hr.w
  have hsl:ss.length=i:=by rw[ht.2.1,List.length_take]; omega
  rw[qLs hi,yQ] at hn hs
  refine FOk.rnd (qC hm 60 ((zRa c p u lF lA ss ss.length i (d+1) _ _).mpr ⟨?_⟩))
  rw[qD,if_pos (by omega)]
  repeat' (refine And.intro (fun _=>by omega) ?_)
  rcases Int.lt_or_le u (gRg p.rg i).1 with hw | hw
  ·rw[qVn hw] at hn
   refine FOk.loop 1 (by kernel_rfl) (FOk.rnd (qC hm 60 ((zMn c p u lF lA ss ss.length i 0 0 (d+1) _ _).mpr ⟨?_⟩)))
   rw[qD,if_pos (by omega)]
   exact aI (hn rfl)
  ·refine FOk.loop ((u-(gRg p.rg i).1+1).toNat+1) (by kernel_rfl) (qOl c p hp u hR hu lF lA ss i hi hsl hb hw kl ml ht (d+1) Q (u-(gRg p.rg i).1+1).toNat 0 (Int.le_refl 0) (by omega) (fun h=>?_) (fun a h=>?_))
   ·have e:qAu kl ml (gRg p.rg i).1 u (gRg p.rg i).2=none:=by rw[qAu,if_pos hw]; exact h
    rw[e] at hn; exact hn rfl
   ·have e:qAu kl ml (gRg p.rg i).1 u (gRg p.rg i).2=some a:=by rw[qAu,if_pos hw]; exact h
    rw[e] at hn hs
    have ha:=qAr e
    have hl:=qEg a (gRg p.rg i).2 lF lA
    have hle:=qHj ha.1 ha.2 (gRg p.rg i).2 lF lA hr.x hc.lf hc.la hc.bf hc.ba
    have htp:=qGl a (gRg p.rg i).2 lF lA (fun x hx=>((hp.r.1 _ (zR hi)).2.1 x hx).2.2.2) hc.tf hc.ta
    have ih:=qOx c hcb p hp u hR hu Q d (i+1) _ _ (ss++[a]) _ _ (by omega) ⟨by rw[hl.1]; exact hc.lf,by rw[hl.2]; exact hc.la,hle.1,hle.2,htp.1,htp.2⟩ (by
     have:=zBg ht (r:=gRg p.rg i) ha.1 w1 (by omega)
     rw[qLh hi]; exact this) (fun j hj=>by
     rcases Nat.lt_or_ge j i with h1 | h1
     ·rw[qRz _ _ (by omega)]; exact hb j h1
     ·obtain rfl:j=i:=by omega
      rw[← hsl,qJw,hsl]; exact ha) hn hs
    refine FOk.loop ((gRg p.rg i).2.length+1) (by kernel_rfl) ?_
    refine FOk.cv (qIj c hcb p hp u hR hu (ss++[a]) (ss++[a]).length i hi (by rw[List.length_append,List.length_singleton]; omega) a ha (d+1) Q _ ih (gRg p.rg i).2.length 0 lF lA (by omega) hc (by rw[List.drop_zero])) ⟨HE.refl _,⟨rfl,rfl,by rw[List.length_append]; rfl,qEr _ rfl⟩,HE.refl _,HE.refl _,HE.refl _,HE.refl _,HE.refl _,HE.refl _,HE.refl _,HE.refl _,HE.refl _,HE.refl _,trivial⟩
theorem qPp(c:Cir)(p:Pln)(hp:p.ok)(u:Int)(hR:plR c p u)(gA:Nat→Nat×(Nat→Nat→qB))(nA:Nat)(hu:u≤1000000)(Q:SV→List HO→Prop):∀(d i:Nat) (lF:List (List Nat)),i+d=p.tb.length→lF.length=c.fx.toNat→(xW u (p.tb.drop i) lF=none→Q (SV.tup [SV.agg [SV.v (Value.slice none 0 0),SV.v (Value.slice none 0 0),SV.v (Value.slice none 0 0),SV.v (Value.slice none 0 0)],SV.v (Value.slice none 0 0),SV.v (qA (141:Int))]) [])→(∀ lF',xW u (p.tb.drop i) lF=some lF'→FOk Tryz.prog Tryz.f13 Q (.at [0,1,0,1,1,1,1,1,1,1]::[.blk 2,.at [1,1,1,1,1,1,1,1]]) (St.mk [(14,SV.v (qA (0:Int))),(13,SV.o 0),(11,SV.p 1 0),(10,SV.v (qA u)),(6,SV.p 2 0),(5,SV.p 3 0)] [HO.rowc 3 1 0 (Ct.lit 1 []),HO.cells [SV.o 4,SV.o 5,SV.x 6 [],SV.v (Value.slice none 0 0)] 42,HO.cells [SV.v (Value.slice none 0 0),SV.v (Value.slice none 0 0),SV.v (Value.slice none 0 0),SV.v (Value.slice none 0 0)] 42,HO.cells [SV.x 7 [],SV.x 8 [],SV.x 9 [],SV.x 10 []] 33,HO.tbl 67 53 4 lF'.length (tC lF') none,HO.tbl 67 53 4 nA gA none,HO.ext false (qB.s false 1 (List.length p.4) (cT p.4)),HO.ext false (qB.s false 2 (List.length p.1) (cRg p.1)),HO.ext false (qB.s false 2 (List.length p.2) (cTa p.2)),HO.ext false (qB.s false 6 (List.length p.3) (cLk p.3)),HO.ext false (qB.s false 1 (List.length p.4) (cT p.4))])) →
  FOk Tryz.prog Tryz.f13 Q (.rnd [0,0,1,0,1,1,1,1,1] (d+1)::[.blk 0,.at [1,1,1,1,1,1]]) (St.mk [(12,SV.v (qA (i:Int))),(11,SV.p 0 0),(10,SV.v (qA u)),(6,SV.p 1 0),(5,SV.p 2 0)] [HO.cells [SV.o 3,SV.o 4,SV.x 5 [],SV.v (Value.slice none 0 0)] 42,HO.cells [SV.v (Value.slice none 0 0),SV.v (Value.slice none 0 0),SV.v (Value.slice none 0 0),SV.v (Value.slice none 0 0)] 42,HO.cells [SV.x 6 [],SV.x 7 [],SV.x 8 [],SV.x 9 []] 33,HO.tbl 67 53 4 lF.length (tC lF) none,HO.tbl 67 53 4 nA gA none,HO.ext false (qB.s false 1 (List.length p.4) (cT p.4)),HO.ext false (qB.s false 2 (List.length p.1) (cRg p.1)),HO.ext false (qB.s false 2 (List.length p.2) (cTa p.2)),HO.ext false (qB.s false 6 (List.length p.3) (cLk p.3)),HO.ext false (qB.s false 1 (List.length p.4) (cT p.4))])
 | 0,i,lF,hd,hl,hn,hs=>by
  refine FOk.rnd (qC hm 60 ((zRx c p u (tC lF) gA lF.length nA i 0 _ _).mpr ⟨?_⟩))
  rw[qD,if_neg (by omega)]
  exact hs lF (by rw[show i=p.tb.length by omega,List.drop_length]; rfl)
 | d+1,i,lF,hd,hl,hn,hs=>by
  have hi:i<p.tb.length:=by omega
  rw[qEd hi,xW] at hn hs
  have hb:=hp.t.2
  have hb2:=(hp.t.1 _ (wY hi)).2.2
  have hb3:=(hp.t.1 _ (wY hi)).2.1
  have hc:=hR.t _ (wY hi)
  refine FOk.rnd (qC hm 60 ((zRx c p u (tC lF) gA lF.length nA i (d+1) _ _).mpr ⟨?_⟩))
  rw[qD,if_pos (by omega),qK _ (by omega)]
  repeat' (refine And.intro (fun _=>by omega) ?_)
  rw[qD]
  refine qG (fun h=>?_) (fun h=>?_)
  ·rw[if_pos h] at hn
   exact aI (hn rfl)
  ·rw[if_neg h] at hn hs
   repeat' (refine And.intro (fun _=>by omega) ?_)
   refine⟨⟨(gTa p.tb i).2,rfl,IsC.refl _ _ _,by omega,hb3,?_⟩⟩
   repeat' (first | refine And.intro (fun _=>trivial) ?_ | refine And.intro (fun _=>by omega) ?_)
   have hk:(gTa p.tb i).1.toNat<lF.length:=by omega
   have ih:=qPp c p hp u hR gA nA hu Q d (i+1) (lF.set (gTa p.tb i).1.toNat (gTa p.tb i).2) (by omega) (by rw[List.length_set]; exact hl) hn hs
   rw[List.length_set] at ih
   refine FOk.unfocus 3 10 _ rfl rfl (by decide) ?_
   rw[qEn hk (gTa p.tb i).2]
   exact FOk.norm (ks:=[12,11,10,6,5]) (nl:=[]) (by kernel_rfl) ih
theorem zWp:Tryz.f13.body.isSome=true:=by kernel_rfl
theorem zYt(c:Cir)(k:Int):Nat.ble ([.agg [.v (.int .i64 c.fx),.v (.int .i64 c.ad),.v (.int .i64 c.ins),.x 0 [],.x 1 [],.x 2 [],.x 3 []],.v (.int .i64 k),.agg [.x 4 [],.x 5 [],.x 6 [],.x 7 []]]:List SV).length Tryz.f13.ntmps=true:=by kernel_rfl
theorem qGt(c:Cir)(hc:c.ok)(p:Pln)(hp:p.ok)(k:Int)(Q:SV→List HO→Prop)(h1:yT c k p≠0→Q (SV.tup [SV.agg [SV.v (Value.slice none 0 0),SV.v (Value.slice none 0 0),SV.v (Value.slice none 0 0),SV.v (Value.slice none 0 0)],SV.v (Value.slice none 0 0),SV.v (qA (yT c k p))]) [])(h2:yT c k p=0→xW (usN k) p.tb (List.replicate (Int.toNat c.1) ([]:List Nat))=none→Q (SV.tup [SV.agg [SV.v (Value.slice none 0 0),SV.v (Value.slice none 0 0),SV.v (Value.slice none 0 0),SV.v (Value.slice none 0 0)],SV.v (Value.slice none 0 0),SV.v (qA (141:Int))]) [])(h3:∀ lF,yT c k p=0→xW (usN k) p.tb (List.replicate (Int.toNat c.1) ([]:List Nat))=some lF→yQ (usN k) p.rg [] [] lF (List.replicate (Int.toNat c.2) ([]:List Nat)) []=none→Q (SV.tup [SV.agg [SV.v (Value.slice none 0 0),SV.v (Value.slice none 0 0),SV.v (Value.slice none 0 0),SV.v (Value.slice none 0 0)],SV.v (Value.slice none 0 0),SV.v (qA (141:Int))]) [])(h4:∀ lF z,yT c k p=0→xW (usN k) p.tb (List.replicate (Int.toNat c.1) ([]:List Nat))=some lF→yQ (usN k) p.rg [] [] lF (List.replicate (Int.toNat c.2) ([]:List Nat)) []=some z→Q (SV.tup [SV.agg [SV.x 0 [],SV.x 1 [],SV.x 2 [],SV.o 3],SV.x 4 [],SV.v (qA (0:Int))]) [HO.ext false (qB.s false 1 z.1.length (cT z.1)),HO.ext false (qB.s false 1 z.2.1.length (cT z.2.1)),HO.ext false (qB.s false 1 p.is.length (cT p.is)),HO.rowc 101 4 (yR z.2.2 p.lk).length (Ct.fn (cP (yR z.2.2 p.lk))),HO.ext false (qB.s false 1 z.2.2.length (cI z.2.2))]):qI Tryz.prog 13 [.agg [.v (.int .i64 c.fx),.v (.int .i64 c.ad),.v (.int .i64 c.ins),.x 0 [],.x 1 [],.x 2 [],.x 3 []],.v (.int .i64 k),.agg [.x 4 [],.x 5 [],.x 6 [],.x 7 []]] [.ext false (.s false 7 c.4.length (cN c.4)),.ext false (.s false 1 c.5.length (cI c.5)),.ext false (.s false 2 c.6.length (cL c.6)),.ext false (.s false 2 c.7.length (cK c.7)),.ext false (.s false 2 p.1.length (cRg p.1)),.ext false (.s false 2 p.2.length (cTa p.2)),.ext false (.s false 6 p.3.length (cLk p.3)),.ext false (.s false 1 p.4.length (cT p.4))] Q:=by
 refine qL Tryz.func13 zWp (zYt c k) ?_
 refine qC hm 60 ((zXj c p k _ _).mpr ⟨?_⟩)
 refine jX c hc p hp ?_
 rw[qV,zC]
 refine qG (fun h0=>?_) (fun h0=>aI (h1 h0))
 have I:=qXe h0
 have hR:=I.pr
 have hub:=I.us
 have hcn:=of_decide_eq_true (qKe I.ck)
 have hcn1:=hcn.1
 have hcn2:=hcn.2.1
 have fin:FOk Tryz.prog Tryz.f13 Q (.at [0,1,0,1,1,1,1,1]::[.blk 0,.at [1,1,1,1,1,1]]) (St.mk [(12,SV.v (qA (0:Int))),(11,SV.p 0 0),(10,SV.v (qA (usN k))),(6,SV.p 1 0),(5,SV.p 2 0)] [HO.cells [SV.o 3,SV.o 4,SV.x 5 [],SV.v (Value.slice none 0 0)] 42,HO.cells [SV.v (Value.slice none 0 0),SV.v (Value.slice none 0 0),SV.v (Value.slice none 0 0),SV.v (Value.slice none 0 0)] 42,HO.cells [SV.x 6 [],SV.x 7 [],SV.x 8 [],SV.x 9 []] 33,HO.rowc 67 1 (Int.toNat c.1) (Ct.zero [Value.slice none 0 0]),HO.rowc 67 1 (Int.toNat c.2) (Ct.zero [Value.slice none 0 0]),HO.ext false (qB.s false 1 (List.length p.4) (cT p.4)),HO.ext false (qB.s false 2 (List.length p.1) (cRg p.1)),HO.ext false (qB.s false 2 (List.length p.2) (cTa p.2)),HO.ext false (qB.s false 6 (List.length p.3) (cLk p.3)),HO.ext false (qB.s false 1 (List.length p.4) (cT p.4))]):=by
  refine FOk.newTz 3 53 rfl (fun _ _=>rfl) ?_
  refine FOk.newTz 4 53 rfl (fun _ _=>rfl) ?_
  refine FOk.norm (ks:=[12,11,10,6,5]) (nl:=[]) (st':=(St.mk [(12,SV.v (qA (0:Int))),(11,SV.p 0 0),(10,SV.v (qA (usN k))),(6,SV.p 1 0),(5,SV.p 2 0)] [HO.cells [SV.o 3,SV.o 4,SV.x 5 [],SV.v (Value.slice none 0 0)] 42,HO.cells [SV.v (Value.slice none 0 0),SV.v (Value.slice none 0 0),SV.v (Value.slice none 0 0),SV.v (Value.slice none 0 0)] 42,HO.cells [SV.x 6 [],SV.x 7 [],SV.x 8 [],SV.x 9 []] 33,HO.tbl 67 53 4 (List.replicate (Int.toNat c.1) ([]:List Nat)).length (tC (List.replicate (Int.toNat c.1) ([]:List Nat))) none,HO.tbl 67 53 4 (List.replicate (Int.toNat c.2) ([]:List Nat)).length (tC (List.replicate (Int.toNat c.2) ([]:List Nat))) none,HO.ext false (qB.s false 1 (List.length p.4) (cT p.4)),HO.ext false (qB.s false 2 (List.length p.1) (cRg p.1)),HO.ext false (qB.s false 2 (List.length p.2) (cTa p.2)),HO.ext false (qB.s false 6 (List.length p.3) (cLk p.3)),HO.ext false (qB.s false 1 (List.length p.4) (cT p.4))])) (by rw[qWc,qWc,List.length_replicate,List.length_replicate]; kernel_rfl) ?_
  refine FOk.loop (p.tb.length+1) (by kernel_rfl) ?_
  refine qPp c p hp (usN k) hR (tC (List.replicate (Int.toNat c.2) ([]:List Nat))) (List.replicate (Int.toNat c.2) ([]:List Nat)).length (by omega) Q p.tb.length 0 (List.replicate (Int.toNat c.1) ([]:List Nat)) (by omega) (by rw[List.length_replicate]) (fun h=>h2 h0 (by rw[List.drop_zero] at h; exact h)) (fun lF' hlF=>?_)
  rw[List.drop_zero] at hlF
  have hlen:=qMh _ _ _ hlF
  rw[List.length_replicate] at hlen
  refine FOk.frzTb 4 rfl ?_
  refine FOk.frzTb 5 rfl ?_
  refine FOk.norm (ks:=[14,13,11,10,6,5]) (nl:=[]) (st':=(St.mk [(14,SV.v (qA (0:Int))),(13,SV.o 0),(11,SV.p 1 0),(10,SV.v (qA (usN k))),(6,SV.p 2 0),(5,SV.p 3 0)] [HO.rowc 3 1 0 (Ct.lit 1 []),HO.cells [SV.x 4 [],SV.x 5 [],SV.x 6 [],SV.v (Value.slice none 0 0)] 42,HO.cells [SV.v (Value.slice none 0 0),SV.v (Value.slice none 0 0),SV.v (Value.slice none 0 0),SV.v (Value.slice none 0 0)] 42,HO.cells [SV.x 7 [],SV.x 8 [],SV.x 9 [],SV.x 10 []] 33,HO.ext false (qB.s false 1 (List.length lF') (cT lF')),HO.ext false (qB.s false 1 (List.length (List.replicate (Int.toNat c.2) ([]:List Nat))) (cT (List.replicate (Int.toNat c.2) ([]:List Nat)))),HO.ext false (qB.s false 1 (List.length p.4) (cT p.4)),HO.ext false (qB.s false 2 (List.length p.1) (cRg p.1)),HO.ext false (qB.s false 2 (List.length p.2) (cTa p.2)),HO.ext false (qB.s false 6 (List.length p.3) (cLk p.3)),HO.ext false (qB.s false 1 (List.length p.4) (cT p.4))])) (by kernel_rfl) ?_
  refine FOk.loop (p.rg.length+1) (by kernel_rfl) ?_
  refine FOk.cv (qOx c (by omega) p hp (usN k) hR hub Q p.rg.length 0 lF' (List.replicate (Int.toNat c.2) ([]:List Nat)) [] [] [] (by omega) ⟨hlen,by rw[List.length_replicate],qJq _ _ _ hlF (qAf _ hub.1),qAf _ hub.1,qKk _ _ _ hlF (qHa _) (fun t ht=>(hp.t.1 t ht).2.1),qHa _⟩ (by rw[List.take_zero]; exact zDr) (fun j hj=>absurd hj (Nat.not_lt_zero j)) (fun h=>h3 lF' h0 hlF (by rw[List.drop_zero] at h; exact h)) (fun z hz=>?_)) ⟨⟨rfl,rfl,rfl,fun k hk=>absurd hk (Nat.not_lt_zero k)⟩,HE.refl _,HE.refl _,HE.refl _,HE.refl _,HE.refl _,HE.refl _,HE.refl _,HE.refl _,HE.refl _,HE.refl _,trivial⟩
  rw[List.drop_zero] at hz
  obtain⟨l,e3,ap⟩:=qFn hub.2 _ _ _ _ _ _ _ hz qRv fun r hr=>(hR.r r hr).w
  have e3':z.2.2=l:=e3
  rw[← e3'] at ap
  refine FOk.nilC 1 3 101 4 rfl rfl ?_
  refine FOk.frzH 0 rfl ?_
  refine FOk.norm (ks:=[21,13,11,6,5]) (nl:=[]) (st':=(St.mk [(21,SV.v (qA (0:Int))),(13,SV.x 0 []),(11,SV.p 1 0),(6,SV.p 2 0),(5,SV.p 3 0)] [HO.ext false (qB.s false 1 (List.length z.2.2) (cI z.2.2)),HO.cells [SV.x 4 [],SV.x 5 [],SV.x 6 [],SV.o 7] 42,HO.cells [SV.v (Value.slice none 0 0),SV.v (Value.slice none 0 0),SV.v (Value.slice none 0 0),SV.v (Value.slice none 0 0)] 42,HO.cells [SV.x 8 [],SV.x 9 [],SV.x 10 [],SV.x 11 []] 33,HO.ext false (qB.s false 1 (List.length z.1) (cT z.1)),HO.ext false (qB.s false 1 (List.length z.2.1) (cT z.2.1)),HO.ext false (qB.s false 1 (List.length p.4) (cT p.4)),HO.rowc 101 4 0 (Ct.lit 1 []),HO.ext false (qB.s false 2 (List.length p.1) (cRg p.1)),HO.ext false (qB.s false 2 (List.length p.2) (cTa p.2)),HO.ext false (qB.s false 6 (List.length p.3) (cLk p.3)),HO.ext false (qB.s false 1 (List.length p.4) (cT p.4))])) (by kernel_rfl) ?_
  refine FOk.loop (p.lk.length+1) (by kernel_rfl) ?_
  exact FOk.cv (qPt c p hp (usN k) hR hub z.1 z.2.1 z.2.2 ap.len ap.rng Q (h4 lF' z h0 hlF hz) p.lk.length 0 [] (by omega) rfl) ⟨HE.refl _,HE.refl _,HE.refl _,HE.refl _,HE.refl _,HE.refl _,HE.refl _,⟨rfl,rfl,rfl,fun k hk=>absurd hk (Nat.not_lt_zero k)⟩,HE.refl _,HE.refl _,HE.refl _,HE.refl _,trivial⟩
 repeat' (first | exact fin | refine And.intro (fun _=>by omega) ?_ | refine And.intro ?_ ?_ | refine qDe hp.i ?_)
theorem zMg(c:Cir)(hc:c.ok)(p:Pln)(hp:p.ok)(k:Int)(Q:SV→List HO→Prop)(h1:(qZ c k p).2≠0→Q (SV.tup [SV.agg [SV.v (Value.slice none 0 0),SV.v (Value.slice none 0 0),SV.v (Value.slice none 0 0),SV.v (Value.slice none 0 0)],SV.v (Value.slice none 0 0),SV.v (qA (qZ c k p).2)]) [])(h2:(qZ c k p).2=0→Q (SV.tup [SV.agg [SV.x 0 [],SV.x 1 [],SV.x 2 [],SV.x 3 []],SV.x 4 [],SV.v (qA (0:Int))]) [HO.ext false (qB.s false 1 (qZ c k p).1.1.fx.length (cT (qZ c k p).1.1.fx)),HO.ext false (qB.s false 1 (qZ c k p).1.1.ad.length (cT (qZ c k p).1.1.ad)),HO.ext false (qB.s false 1 (qZ c k p).1.1.is.length (cT (qZ c k p).1.1.is)),HO.ext false (qB.s false 4 (qZ c k p).1.1.cp.length (cP (qZ c k p).1.1.cp)),HO.ext false (qB.s false 1 (qZ c k p).1.2.length (cI (qZ c k p).1.2))]):qI Tryz.prog 13 [.agg [.v (.int .i64 c.fx),.v (.int .i64 c.ad),.v (.int .i64 c.ins),.x 0 [],.x 1 [],.x 2 [],.x 3 []],.v (.int .i64 k),.agg [.x 4 [],.x 5 [],.x 6 [],.x 7 []]] [.ext false (.s false 7 c.4.length (cN c.4)),.ext false (.s false 1 c.5.length (cI c.5)),.ext false (.s false 2 c.6.length (cL c.6)),.ext false (.s false 2 c.7.length (cK c.7)),.ext false (.s false 2 p.1.length (cRg p.1)),.ext false (.s false 2 p.2.length (cTa p.2)),.ext false (.s false 6 p.3.length (cLk p.3)),.ext false (.s false 1 p.4.length (cT p.4))] Q:=by
 by_cases e0:yT c k p=0
 ·cases e1:xW (usN k) p.tb (List.replicate (Int.toNat c.1) ([]:List Nat)) with
  | none =>
   have e:(qZ c k p)=((qFd,[]),141):=by rw[qZ,if_neg (fun h=>h e0),e1]
   rw[e] at h1
   exact qGt c hc p hp k Q (fun h=>absurd e0 h) (fun _ _=>h1 (by decide)) (fun lF _ h=>by rw[e1] at h; cases h) (fun lF z _ h=>by rw[e1] at h; cases h)
  | some lF =>
   cases e2:yQ (usN k) p.rg [] [] lF (List.replicate (Int.toNat c.2) ([]:List Nat)) [] with
   | none =>
    have e:(qZ c k p)=((qFd,[]),141):=by rw[qZ,if_neg (fun h=>h e0),e1]; show(match yQ (usN k) p.rg [] [] lF (List.replicate (Int.toNat c.2) ([]:List Nat)) [] with | none=>_ | some z=>_)=_; rw[e2]
    rw[e] at h1
    refine qGt c hc p hp k Q (fun h=>absurd e0 h) (fun _ h=>by rw[e1] at h; cases h) (fun lF _ _ _=>h1 (by decide)) (fun lF' z _ h g=>?_)
    rw[e1] at h; cases h
    rw[e2] at g; cases g
   | some z =>
    have e:(qZ c k p)=((⟨z.1,z.2.1,p.is,yR z.2.2 p.lk⟩,z.2.2),0):=by rw[qZ,if_neg (fun h=>h e0),e1]; show(match yQ (usN k) p.rg [] [] lF (List.replicate (Int.toNat c.2) ([]:List Nat)) [] with | none=>_ | some z=>_)=_; rw[e2]
    rw[e] at h2
    refine qI.mono (qI.gc (r1:=(SV.tup [SV.agg [SV.x 0 [],SV.x 1 [],SV.x 2 [],SV.x 3 []],SV.x 4 [],SV.v (qA (0:Int))])) (h1:=[HO.ext false (qB.s false 1 z.1.length (cT z.1)),HO.ext false (qB.s false 1 z.2.1.length (cT z.2.1)),HO.ext false (qB.s false 1 p.is.length (cT p.is)),HO.ext false (qB.s false 4 (yR z.2.2 p.lk).length (cP (yR z.2.2 p.lk))),HO.ext false (qB.s false 1 z.2.2.length (cI z.2.2))]) (by kernel_rfl) (qI.frz1 (r0:=(SV.tup [SV.agg [SV.x 0 [],SV.x 1 [],SV.x 2 [],SV.o 3],SV.x 4 [],SV.v (qA (0:Int))])) (h0:=[HO.ext false (qB.s false 1 z.1.length (cT z.1)),HO.ext false (qB.s false 1 z.2.1.length (cT z.2.1)),HO.ext false (qB.s false 1 p.is.length (cT p.is)),HO.rowc 101 4 (yR z.2.2 p.lk).length (Ct.fn (cP (yR z.2.2 p.lk))),HO.ext false (qB.s false 1 z.2.2.length (cI z.2.2))]) 3 rfl (qGt c hc p hp k _ (fun h=>absurd e0 h) (fun _ h=>by rw[e1] at h; cases h) (fun lF' _ h g=>?_) (fun lF' z' _ h g=>?_)))) (fun r h hh=>by rw[hh.1,hh.2]; exact h2 rfl)
    ·rw[e1] at h; cases h
     rw[e2] at g; cases g
    ·rw[e1] at h; cases h
     rw[e2] at g; cases g
     exact⟨rfl,rfl⟩
 ·have e:(qZ c k p)=((qFd,[]),yT c k p):=by rw[qZ,if_pos e0]
  rw[e] at h1
  exact qGt c hc p hp k Q (fun h=>h1 h) (fun h=>absurd h e0) (fun _ h=>absurd h e0) (fun _ _ h=>absurd h e0)
noncomputable def zLo:List SV→List HO→Option ((SV→List HO→Prop)→Prop)
 | [.agg [.v (.int .i64 fx),.v (.int .i64 ad),.v (.int .i64 ins),.x 0 [],.x 1 [],.x 2 [],.x 3 []],.v (.int .i64 k),.agg [.x 4 [],.x 5 [],.x 6 [],.x 7 []]],[.ext false (.s false 7 n0 c0),.ext false (.s false 1 n1 c1),.ext false (.s false 2 n2 c2),.ext false (.s false 2 n3 c3),.ext false (.s false 2 m0 d0),.ext false (.s false 2 m1 d1),.ext false (.s false 6 m2 d2),.ext false (.s false 1 m3 d3)] =>
  some fun Q=>lLy fx ad ins k n0 n1 n2 n3 m0 m1 m2 m3 c0 c1 c2 c3 d0 d1 d2 d3 (fun e=>Q (SV.tup [SV.agg [SV.v (Value.slice none 0 0),SV.v (Value.slice none 0 0),SV.v (Value.slice none 0 0),SV.v (Value.slice none 0 0)],SV.v (Value.slice none 0 0),SV.v (.int .i64 e)]) []) (fun s ss=>Q (SV.tup [SV.agg [SV.x 0 [],SV.x 1 [],SV.x 2 [],SV.x 3 []],SV.x 4 [],SV.v (qA (0:Int))]) [HO.ext false (qB.s false 1 s.fx.length (cT s.fx)),HO.ext false (qB.s false 1 s.ad.length (cT s.ad)),HO.ext false (qB.s false 1 s.is.length (cT s.is)),HO.ext false (qB.s false 4 s.cp.length (cP s.cp)),HO.ext false (qB.s false 1 ss.length (cI ss))])
 | _,_=>none
theorem zGv(args:List SV)(h:List HO)(tr:(SV→List HO→Prop)→Prop)(Q:SV→List HO→Prop)(hc:zLo args h=some tr)(ht:tr Q):qI Tryz.prog 13 args h Q:=by
 unfold zLo at hc
 split at hc
 ·simp only[sI] at hc
  subst hc
  obtain⟨c,rfl,rfl,rfl,⟨rfl,e0⟩,⟨rfl,e1⟩,⟨rfl,e2⟩,⟨rfl,e3⟩,hk,ht2⟩:=ht.h.h.h
  obtain⟨p,⟨rfl,e4⟩,⟨rfl,e5⟩,⟨rfl,e6⟩,⟨rfl,e7⟩,hp,hq⟩:=ht2.h
  exact qI.ac (zMg c hk p hp _ Q hq.1 hq.2) ⟨⟨rfl,rfl,rfl,rfl,e0⟩,⟨rfl,rfl,rfl,rfl,e1⟩,⟨rfl,rfl,rfl,rfl,e2⟩,⟨rfl,rfl,rfl,rfl,e3⟩,⟨rfl,rfl,rfl,rfl,e4⟩,⟨rfl,rfl,rfl,rfl,e5⟩,⟨rfl,rfl,rfl,rfl,e6⟩,⟨rfl,rfl,rfl,rfl,e7⟩,trivial⟩
 ·cases hc
noncomputable def zBa:Con Tryz.prog:=qUf.add 13 zLo zGv
end Go.Proofs.YtlmjdcbhpffanaaGreat
/- Circuits, tables of the same contents. -/
namespace Go.Proofs.YtlmjdcbhpffanaaGreat
open Go.Sx Go.Pl
set_option linter.unusedVariables false
set_option maxRecDepth 100000
theorem sc1(c d:Cir)(k M:Nat)(K:List It→St→Prop)(R:SV→List HO→Prop):W (xwp Tryz.prog X zBa [] 60 (qO Tryz.f16 [] [⟨[0,1,0,1,1],[5,2,3],[]⟩,⟨[0,1,0,1,1,1],[6,2,3],[]⟩]) [] (.at [0,0,1,0,1,1]::.rnd [0,0,1,0,1,1] M::[.blk 0,.at [1,1,1]]) ⟨[(5,.v (.int .i64 (k:Int))),(2,.p 0 0),(3,.p 1 0)],[.cells [.v (.int .i64 c.fx),.v (.int .i64 c.ad),.v (.int .i64 c.ins),.x 2 [],.x 3 [],.x 4 [],.x 5 []] 27,.cells [.v (.int .i64 d.fx),.v (.int .i64 d.ad),.v (.int .i64 d.ins),.x 6 [],.x 7 [],.x 8 [],.x 9 []] 27,.ext false (.s false 7 c.nodes.length (cN c.nodes)),.ext false (.s false 1 c.gates.length (cI c.gates)),.ext false (.s false 2 c.looks.length (cL c.looks)),.ext false (.s false 2 c.eqs.length (cK c.eqs)),.ext false (.s false 7 d.nodes.length (cN d.nodes)),.ext false (.s false 1 d.gates.length (cI d.gates)),.ext false (.s false 2 d.looks.length (cL d.looks)),.ext false (.s false 2 d.eqs.length (cK d.eqs))]⟩ K R)=W (bif decide ((↑k:Int)<(↑c.6.length:Int)) then(∀ M:Mem,(0:Int)≤(↑k:Int)∧(↑k:Int)<(↑c.6.length:Int))∧(∀ M:Mem,k<List.length c.6)∧(∀ M:Mem,k<List.length c.6)∧(∀ M:Mem,(0:Int)≤(↑k:Int)∧(↑k:Int)<(↑d.6.length:Int))∧(∀ M:Mem,k<List.length d.6)∧(∀ M:Mem,k<List.length d.6)∧(∀ M:Mem,k<List.length c.6)∧(∀ M:Mem,k<List.length d.6)∧lI2 (List.length (gL c.6 k).1) (List.length (gL d.6 k).1) (cI (gL c.6 k).1) (cI (gL d.6 k).1) fun(l l2:List Int)=>bif !decide (l=l2) then R (.v (.bool false)) [] else(∀ M:Mem,(0:Int)≤(↑k:Int)∧(↑k:Int)<(↑c.6.length:Int))∧(∀ M:Mem,k<List.length c.6)∧(∀ M:Mem,k<List.length c.6)∧(∀ M:Mem,(0:Int)≤(↑k:Int)∧(↑k:Int)<(↑d.6.length:Int))∧(∀ M:Mem,k<List.length d.6)∧(∀ M:Mem,k<List.length d.6)∧(∀ M:Mem,k<List.length c.6)∧(∀ M:Mem,k<List.length d.6)∧lI2 (List.length (gL c.6 k).2) (List.length (gL d.6 k).2) (cI (gL c.6 k).2) (cI (gL d.6 k).2) fun(l l2:List Int)=>bif !decide (l=l2) then R (.v (.bool false)) [] else K [.rnd [0,0,1,0,1,1] M,.blk 0,.at [1,1,1]] (St.mk [(5,.v (qA (IntKind.wrap .i64 ((↑k:Int)+(1:Int))))),(2,.p 0 0),(3,.p 1 0)] [.cells [.v (qA c.1),.v (qA c.2),.v (qA c.3),.x 2 [],.x 3 [],.x 4 [],.x 5 []] 27,.cells [.v (qA d.1),.v (qA d.2),.v (qA d.3),.x 6 [],.x 7 [],.x 8 [],.x 9 []] 27,.ext false (.s false 7 c.4.length (cN c.4)),.ext false (.s false 1 c.5.length (cI c.5)),.ext false (.s false 2 c.6.length (cL c.6)),.ext false (.s false 2 c.7.length (cK c.7)),.ext false (.s false 7 d.4.length (cN d.4)),.ext false (.s false 1 d.5.length (cI d.5)),.ext false (.s false 2 d.6.length (cL d.6)),.ext false (.s false 2 d.7.length (cK d.7))]) else K [.at [0,1,0,1,1,1],.blk 2,.at [1,1,1,1]] (St.mk [(6,.v (qA 0)),(2,.p 0 0),(3,.p 1 0)] [.cells [.v (qA c.1),.v (qA c.2),.v (qA c.3),.x 2 [],.x 3 [],.x 4 [],.x 5 []] 27,.cells [.v (qA d.1),.v (qA d.2),.v (qA d.3),.x 6 [],.x 7 [],.x 8 [],.x 9 []] 27,.ext false (.s false 7 c.4.length (cN c.4)),.ext false (.s false 1 c.5.length (cI c.5)),.ext false (.s false 2 c.6.length (cL c.6)),.ext false (.s false 2 c.7.length (cK c.7)),.ext false (.s false 7 d.4.length (cN d.4)),.ext false (.s false 1 d.5.length (cI d.5)),.ext false (.s false 2 d.6.length (cL d.6)),.ext false (.s false 2 d.7.length (cK d.7))])):=by kernel_rfl
theorem sc2(c d:Cir)(k M:Nat)(K:List It→St→Prop)(R:SV→List HO→Prop):W (xwp Tryz.prog X zBa [] 60 (qO Tryz.f16 [] [⟨[0,1,0,1,1],[5,2,3],[]⟩,⟨[0,1,0,1,1,1],[6,2,3],[]⟩]) [] (.at [0,0,1,0,1,1,1]::.rnd [0,0,1,0,1,1,1] M::[.blk 2,.at [1,1,1,1]]) ⟨[(6,.v (.int .i64 (k:Int))),(2,.p 0 0),(3,.p 1 0)],[.cells [.v (.int .i64 c.fx),.v (.int .i64 c.ad),.v (.int .i64 c.ins),.x 2 [],.x 3 [],.x 4 [],.x 5 []] 27,.cells [.v (.int .i64 d.fx),.v (.int .i64 d.ad),.v (.int .i64 d.ins),.x 6 [],.x 7 [],.x 8 [],.x 9 []] 27,.ext false (.s false 7 c.nodes.length (cN c.nodes)),.ext false (.s false 1 c.gates.length (cI c.gates)),.ext false (.s false 2 c.looks.length (cL c.looks)),.ext false (.s false 2 c.eqs.length (cK c.eqs)),.ext false (.s false 7 d.nodes.length (cN d.nodes)),.ext false (.s false 1 d.gates.length (cI d.gates)),.ext false (.s false 2 d.looks.length (cL d.looks)),.ext false (.s false 2 d.eqs.length (cK d.eqs))]⟩ K R)=W (bif decide ((↑k:Int)<(↑c.7.length:Int)) then(∀ M:Mem,(0:Int)≤(↑k:Int)∧(↑k:Int)<(↑c.7.length:Int))∧(∀ M:Mem,k<List.length c.7)∧(∀ M:Mem,(0:Int)≤(↑k:Int)∧(↑k:Int)<(↑d.7.length:Int))∧(∀ M:Mem,k<List.length d.7)∧bif !decide ([(gK c.7 k).1,(gK c.7 k).2]=[(gK d.7 k).1,(gK d.7 k).2]) then R (.v (.bool false)) [] else K [.rnd [0,0,1,0,1,1,1] M,.blk 2,.at [1,1,1,1]] (St.mk [(6,.v (qA (IntKind.wrap .i64 ((↑k:Int)+(1:Int))))),(2,.p 0 0),(3,.p 1 0)] [.cells [.v (qA c.1),.v (qA c.2),.v (qA c.3),.x 2 [],.x 3 [],.x 4 [],.x 5 []] 27,.cells [.v (qA d.1),.v (qA d.2),.v (qA d.3),.x 6 [],.x 7 [],.x 8 [],.x 9 []] 27,.ext false (.s false 7 c.4.length (cN c.4)),.ext false (.s false 1 c.5.length (cI c.5)),.ext false (.s false 2 c.6.length (cL c.6)),.ext false (.s false 2 c.7.length (cK c.7)),.ext false (.s false 7 d.4.length (cN d.4)),.ext false (.s false 1 d.5.length (cI d.5)),.ext false (.s false 2 d.6.length (cL d.6)),.ext false (.s false 2 d.7.length (cK d.7))]) else R (.v (.bool true)) []):=by kernel_rfl
theorem scS(c d:Cir)(K:List It→St→Prop)(R:SV→List HO→Prop):W (xwp Tryz.prog X zBa [] 60 (qO Tryz.f16 [] [⟨[0,1,0,1,1],[5,2,3],[]⟩,⟨[0,1,0,1,1,1],[6,2,3],[]⟩]) [] [.at []] ⟨qQ 0 [.agg [.v (.int .i64 c.fx),.v (.int .i64 c.ad),.v (.int .i64 c.ins),.x 0 [],.x 1 [],.x 2 [],.x 3 []],.agg [.v (.int .i64 d.fx),.v (.int .i64 d.ad),.v (.int .i64 d.ins),.x 4 [],.x 5 [],.x 6 [],.x 7 []]],[.ext false (.s false 7 c.nodes.length (cN c.nodes)),.ext false (.s false 1 c.gates.length (cI c.gates)),.ext false (.s false 2 c.looks.length (cL c.looks)),.ext false (.s false 2 c.eqs.length (cK c.eqs)),.ext false (.s false 7 d.nodes.length (cN d.nodes)),.ext false (.s false 1 d.gates.length (cI d.gates)),.ext false (.s false 2 d.looks.length (cL d.looks)),.ext false (.s false 2 d.eqs.length (cK d.eqs))]⟩ K R)=W (bif !c.1==d.1 then R (.v (.bool false)) [] else bif !c.2==d.2 then R (.v (.bool false)) [] else bif !c.3==d.3 then R (.v (.bool false)) [] else ∃(l:List Nd),List.length c.4=List.length l∧IsC c.4.length 7 (cN c.4) (cN l)∧List.length l≤4398046511104∧∃(l2:List Nd),List.length d.4=List.length l2∧IsC d.4.length 7 (cN d.4) (cN l2)∧(∀(x:Nd),x∈l→x.4<top)∧(∀(x:Nd),x∈l2→x.4<top)∧bif !decide (l=l2) then R (.v (.bool false)) [] else lI2 c.5.length d.5.length (cI c.5) (cI d.5) fun(l l2:List Int)=>bif !decide (l=l2) then R (.v (.bool false)) [] else bif !(↑c.6.length:Int)==(↑d.6.length:Int) then R (.v (.bool false)) [] else bif !(↑c.7.length:Int)==(↑d.7.length:Int) then R (.v (.bool false)) [] else K [.at [0,1,0,1,1],.blk 0,.at [1,1,1]] (St.mk [(5,.v (qA 0)),(2,.p 0 0),(3,.p 1 0)] [.cells [.v (qA c.1),.v (qA c.2),.v (qA c.3),.x 2 [],.x 3 [],.x 4 [],.x 5 []] 27,.cells [.v (qA d.1),.v (qA d.2),.v (qA d.3),.x 6 [],.x 7 [],.x 8 [],.x 9 []] 27,.ext false (.s false 7 c.4.length (cN c.4)),.ext false (.s false 1 c.5.length (cI c.5)),.ext false (.s false 2 c.6.length (cL c.6)),.ext false (.s false 2 c.7.length (cK c.7)),.ext false (.s false 7 d.4.length (cN d.4)),.ext false (.s false 1 d.5.length (cI d.5)),.ext false (.s false 2 d.6.length (cL d.6)),.ext false (.s false 2 d.7.length (cK d.7))])):=by kernel_rfl
theorem zUm(l l2:List (List Nat))(K:List It→St→Prop)(R:SV→List HO→Prop):W (xwp Tryz.prog X zBa [] 60 (qO Tryz.f17 [] [⟨[0,1,0,1,1],[5,0,1],[]⟩]) [] [.at []] ⟨qQ 0 [.x 0 [],.x 1 []],[.ext false (.s false 1 l.length (cT l)),.ext false (.s false 1 l2.length (cT l2))]⟩ K R)=W (bif !(↑l.length:Int)==(↑l2.length:Int) then R (.v (.bool false)) [] else K [.at [0,1,0,1,1],.blk 0,.at [1,1,1]] (St.mk [(5,.v (qA 0)),(0,.x 0 []),(1,.x 1 [])] [.ext false (.s false 1 l.length (cT l)),.ext false (.s false 1 l2.length (cT l2))])):=by kernel_rfl
theorem zPt(l l2:List (List Nat))(k M:Nat)(K:List It→St→Prop)(R:SV→List HO→Prop):W (xwp Tryz.prog X zBa [] 60 (qO Tryz.f17 [] [⟨[0,1,0,1,1],[5,0,1],[]⟩]) [] (.at [0,0,1,0,1,1]::.rnd [0,0,1,0,1,1] M::[.blk 0,.at [1,1,1]]) ⟨[(5,.v (.int .i64 (k:Int))),(0,.x 0 []),(1,.x 1 [])],[.ext false (.s false 1 l.length (cT l)),.ext false (.s false 1 l2.length (cT l2))]⟩ K R)=W (bif decide ((↑k:Int)<(↑l.length:Int)) then(∀ M:Mem,(0:Int)≤(↑k:Int)∧(↑k:Int)<(↑l.length:Int))∧(∀ M:Mem,k<List.length l)∧(∀ M:Mem,(0:Int)≤(↑k:Int)∧(↑k:Int)<(↑l2.length:Int))∧(∀ M:Mem,k<List.length l2)∧(∀ M:Mem,k<List.length l)∧(∀ M:Mem,k<List.length l2)∧lE2 (List.length (gT l k)) (List.length (gT l2 k)) (cE (gT l k)) (cE (gT l2 k)) fun(l_1 l2_1:List Nat)=>bif !decide (l_1=l2_1) then R (.v (.bool false)) [] else K [.rnd [0,0,1,0,1,1] M,.blk 0,.at [1,1,1]] (St.mk [(5,.v (qA (IntKind.wrap .i64 ((↑k:Int)+(1:Int))))),(0,.x 0 []),(1,.x 1 [])] [.ext false (.s false 1 l.length (cT l)),.ext false (.s false 1 l2.length (cT l2))]) else R (.v (.bool true)) []):=by kernel_rfl
theorem qSn(c:Cir)(hc:c.ok)(Q:SV→List HO→Prop)(hq:Q (.v (.bool true)) []):∀(d k:Nat),k+d=c.eqs.length →
  FOk Tryz.prog Tryz.f16 Q (.rnd [0,0,1,0,1,1,1] (d+1)::[.blk 2,.at [1,1,1,1]]) ⟨[(6,.v (.int .i64 (k:Int))),(2,.p 0 0),(3,.p 1 0)],[.cells [.v (.int .i64 c.fx),.v (.int .i64 c.ad),.v (.int .i64 c.ins),.x 2 [],.x 3 [],.x 4 [],.x 5 []] 27,.cells [.v (.int .i64 c.fx),.v (.int .i64 c.ad),.v (.int .i64 c.ins),.x 6 [],.x 7 [],.x 8 [],.x 9 []] 27,.ext false (.s false 7 c.nodes.length (cN c.nodes)),.ext false (.s false 1 c.gates.length (cI c.gates)),.ext false (.s false 2 c.looks.length (cL c.looks)),.ext false (.s false 2 c.eqs.length (cK c.eqs)),.ext false (.s false 7 c.nodes.length (cN c.nodes)),.ext false (.s false 1 c.gates.length (cI c.gates)),.ext false (.s false 2 c.looks.length (cL c.looks)),.ext false (.s false 2 c.eqs.length (cK c.eqs))]⟩
 | 0,k,hd=>by
  refine FOk.rnd (qC hm 60 ((sc2 c c k 0 _ _).mpr ⟨?_⟩))
  rw[qD,if_neg (by omega)]
  exact hq
 | d+1,k,hd=>by
  have h1:=hc.e.2
  refine FOk.rnd (qC hm 60 ((sc2 c c k (d+1) _ _).mpr ⟨?_⟩))
  rw[qD,if_pos (by omega),qK _ (by omega),decide_eq_true rfl]
  exact aI (aI (aI (aI (qSn c hc Q hq d (k+1) (by omega)))))
theorem qVl(c:Cir)(hc:c.ok)(Q:SV→List HO→Prop)(hq:Q (.v (.bool true)) []):∀(d k:Nat),k+d=c.looks.length →
  FOk Tryz.prog Tryz.f16 Q (.rnd [0,0,1,0,1,1] (d+1)::[.blk 0,.at [1,1,1]]) ⟨[(5,.v (.int .i64 (k:Int))),(2,.p 0 0),(3,.p 1 0)],[.cells [.v (.int .i64 c.fx),.v (.int .i64 c.ad),.v (.int .i64 c.ins),.x 2 [],.x 3 [],.x 4 [],.x 5 []] 27,.cells [.v (.int .i64 c.fx),.v (.int .i64 c.ad),.v (.int .i64 c.ins),.x 6 [],.x 7 [],.x 8 [],.x 9 []] 27,.ext false (.s false 7 c.nodes.length (cN c.nodes)),.ext false (.s false 1 c.gates.length (cI c.gates)),.ext false (.s false 2 c.looks.length (cL c.looks)),.ext false (.s false 2 c.eqs.length (cK c.eqs)),.ext false (.s false 7 c.nodes.length (cN c.nodes)),.ext false (.s false 1 c.gates.length (cI c.gates)),.ext false (.s false 2 c.looks.length (cL c.looks)),.ext false (.s false 2 c.eqs.length (cK c.eqs))]⟩
 | 0,k,hd=>by
  refine FOk.rnd (qC hm 60 ((sc1 c c k 0 _ _).mpr ⟨?_⟩))
  rw[qD,if_neg (by omega)]
  exact FOk.loop (c.eqs.length+1) (by kernel_rfl) (qSn c hc Q hq c.eqs.length 0 (by omega))
 | d+1,k,hd=>by
  have h1:=hc.l.2
  have hk:k<c.looks.length:=by omega
  obtain⟨⟨_,g1⟩,⟨_,g2⟩⟩:=hc.l.1 _ (qCt hk)
  refine FOk.rnd (qC hm 60 ((sc1 c c k (d+1) _ _).mpr ⟨?_⟩))
  rw[qD,if_pos (by omega),qK _ (by omega)]
  refine aI (aI (aI (aI (aI (aI (aI (aI (⟨⟨_,_,rfl,IsC.refl _ _ _,rfl,IsC.refl _ _ _,by omega,?_⟩⟩))))))))
  rw[decide_eq_true rfl]
  refine aI (aI (aI (aI (aI (aI (aI (aI (⟨⟨_,_,rfl,IsC.refl _ _ _,rfl,IsC.refl _ _ _,by omega,?_⟩⟩))))))))
  rw[decide_eq_true rfl]
  exact qVl c hc Q hq d (k+1) (by omega)
theorem bSc:Tryz.f16.body.isSome=true:=by kernel_rfl
theorem nSc(c:Cir):Nat.ble [(.agg [.v (.int .i64 c.fx),.v (.int .i64 c.ad),.v (.int .i64 c.ins),.x 0 [],.x 1 [],.x 2 [],.x 3 []]:SV),.agg [.v (.int .i64 c.fx),.v (.int .i64 c.ad),.v (.int .i64 c.ins),.x 4 [],.x 5 [],.x 6 [],.x 7 []]].length Tryz.f16.ntmps=true:=by kernel_rfl
theorem zNn(c:Cir)(hc:c.ok)(Q:SV→List HO→Prop)(hq:Q (.v (.bool true)) []):qI Tryz.prog 16 [.agg [.v (.int .i64 c.fx),.v (.int .i64 c.ad),.v (.int .i64 c.ins),.x 0 [],.x 1 [],.x 2 [],.x 3 []],.agg [.v (.int .i64 c.fx),.v (.int .i64 c.ad),.v (.int .i64 c.ins),.x 4 [],.x 5 [],.x 6 [],.x 7 []]] [.ext false (.s false 7 c.nodes.length (cN c.nodes)),.ext false (.s false 1 c.gates.length (cI c.gates)),.ext false (.s false 2 c.looks.length (cL c.looks)),.ext false (.s false 2 c.eqs.length (cK c.eqs)),.ext false (.s false 7 c.nodes.length (cN c.nodes)),.ext false (.s false 1 c.gates.length (cI c.gates)),.ext false (.s false 2 c.looks.length (cL c.looks)),.ext false (.s false 2 c.eqs.length (cK c.eqs))] Q:=by
 refine qL Tryz.func16 bSc ?_ ?_
 ·exact nSc c
 have h1:=hc.n.2
 have h2:=hc.g.2
 refine qC hm 60 ((scS c c _ _).mpr ⟨?_⟩)
 simp only[beq_self_eq_true,Bool.not_true,cond_false]
 refine⟨c.nodes,rfl,IsC.refl _ _ _,by omega,c.nodes,rfl,IsC.refl _ _ _,fun x hx=>(hc.n.1 x hx).1,fun x hx=>(hc.n.1 x hx).1,?_⟩
 rw[decide_eq_true rfl]
 refine⟨⟨c.gates,c.gates,rfl,IsC.refl _ _ _,rfl,IsC.refl _ _ _,by omega,?_⟩⟩
 rw[decide_eq_true rfl]
 exact FOk.loop (c.looks.length+1) (by kernel_rfl) (qVl c hc Q hq c.looks.length 0 (by omega))
noncomputable def zOc:List SV→List HO→Option ((SV→List HO→Prop)→Prop)
 | [.agg [.v (.int .i64 fx),.v (.int .i64 ad),.v (.int .i64 ins),.x 0 [],.x 1 [],.x 2 [],.x 3 []],.agg [.v (.int .i64 gx),.v (.int .i64 bd),.v (.int .i64 jns),.x 4 [],.x 5 [],.x 6 [],.x 7 []]],[.ext false (.s false 7 n0 c0),.ext false (.s false 1 n1 c1),.ext false (.s false 2 n2 c2),.ext false (.s false 2 n3 c3),.ext false (.s false 7 m0 d0),.ext false (.s false 1 m1 d1),.ext false (.s false 2 m2 d2),.ext false (.s false 2 m3 d3)] =>
  some fun Q=>lC fx ad ins n0 n1 n2 n3 c0 c1 c2 c3 fun c=>lC gx bd jns m0 m1 m2 m3 d0 d1 d2 d3 fun d=>d=c∧Q (.v (.bool true)) []
 | _,_=>none
theorem zGb(args:List SV)(h:List HO)(tr:(SV→List HO→Prop)→Prop)(Q:SV→List HO→Prop)(hc:zOc args h=some tr)(ht:tr Q):qI Tryz.prog 16 args h Q:=by
 unfold zOc at hc
 split at hc
 ·simp only[sI] at hc
  subst hc
  obtain⟨c,rfl,rfl,rfl,⟨rfl,e0⟩,⟨rfl,e1⟩,⟨rfl,e2⟩,⟨rfl,e3⟩,hk,ht2⟩:=ht.h
  obtain⟨d,rfl,rfl,rfl,⟨rfl,e4⟩,⟨rfl,e5⟩,⟨rfl,e6⟩,⟨rfl,e7⟩,hk2,rfl,hq⟩:=ht2.h
  exact qI.ac (zNn _ hk Q hq) ⟨⟨rfl,rfl,rfl,rfl,e0⟩,⟨rfl,rfl,rfl,rfl,e1⟩,⟨rfl,rfl,rfl,rfl,e2⟩,⟨rfl,rfl,rfl,rfl,e3⟩,⟨rfl,rfl,rfl,rfl,e4⟩,⟨rfl,rfl,rfl,rfl,e5⟩,⟨rfl,rfl,rfl,rfl,e6⟩,⟨rfl,rfl,rfl,rfl,e7⟩,trivial⟩
 ·cases hc
theorem qTz(l:List (List Nat))(hl:okT l)(Q:SV→List HO→Prop)(hq:Q (.v (.bool true)) []):∀(d k:Nat),k+d=l.length →
  FOk Tryz.prog Tryz.f17 Q (.rnd [0,0,1,0,1,1] (d+1)::[.blk 0,.at [1,1,1]]) ⟨[(5,.v (.int .i64 (k:Int))),(0,.x 0 []),(1,.x 1 [])],[.ext false (.s false 1 l.length (cT l)),.ext false (.s false 1 l.length (cT l))]⟩
 | 0,k,hd=>by
  refine FOk.rnd (qC hm 60 ((zPt l l k 0 _ _).mpr ⟨?_⟩))
  rw[qD,if_neg (by omega)]
  exact hq
 | d+1,k,hd=>by
  have hk:k<l.length:=by omega
  have h1:=hl.2
  obtain⟨g0,g1⟩:=hl.1 _ (qKu hk)
  refine FOk.rnd (qC hm 60 ((zPt l l k (d+1) _ _).mpr ⟨?_⟩))
  rw[qD,if_pos (by omega),qK _ (by omega)]
  repeat' (refine And.intro (fun _=>by omega) ?_)
  refine⟨⟨_,_,rfl,IsC.refl _ _ _,rfl,IsC.refl _ _ _,by omega,g0,g0,?_⟩⟩
  rw[decide_eq_true rfl]
  exact qTz l hl Q hq d (k+1) (by omega)
theorem zVn:Tryz.f17.body.isSome=true:=by kernel_rfl
theorem zVe:Nat.ble [SV.x 0 [],.x 1 []].length Tryz.f17.ntmps=true:=by kernel_rfl
theorem zMa(l:List (List Nat))(hl:okT l)(Q:SV→List HO→Prop)(hq:Q (.v (.bool true)) []):qI Tryz.prog 17 [.x 0 [],.x 1 []] [.ext false (.s false 1 l.length (cT l)),.ext false (.s false 1 l.length (cT l))] Q:=by
 refine qL Tryz.func17 zVn ?_ ?_
 ·exact zVe
 refine qC hm 60 ((zUm l l _ _).mpr ⟨?_⟩)
 simp only[beq_self_eq_true,Bool.not_true,cond_false]
 exact FOk.loop (l.length+1) (by kernel_rfl) (qTz l hl Q hq l.length 0 (by omega))
noncomputable def zMd:List SV→List HO→Option ((SV→List HO→Prop)→Prop)
 | [.x 0 [],.x 1 []],[.ext false (.s false 1 n c),.ext false (.s false 1 m d)]=>some fun Q=>lT n c fun l=>lT m d fun l2=>l2=l∧Q (.v (.bool true)) []
 | _,_=>none
theorem zGa(args:List SV)(h:List HO)(tr:(SV→List HO→Prop)→Prop)(Q:SV→List HO→Prop)(hc:zMd args h=some tr)(ht:tr Q):qI Tryz.prog 17 args h Q:=by
 unfold zMd at hc
 split at hc
 ·simp only[sI] at hc
  subst hc
  obtain⟨l,rfl,e0,hl,ht2⟩:=ht.h
  obtain⟨l2,rfl,e1,hl2,rfl,hq⟩:=ht2.h
  exact qI.ac (zMa _ hl Q hq) ⟨⟨rfl,rfl,rfl,rfl,e0⟩,⟨rfl,rfl,rfl,rfl,e1⟩,trivial⟩
 ·cases hc
noncomputable def zMu:Con Tryz.prog:=(zBa.add 16 zOc zGb).add 17 zMd zGa
end Go.Proofs.YtlmjdcbhpffanaaGreat
/- Sheets of the same contents. -/
namespace Go.Proofs.YtlmjdcbhpffanaaGreat
open Go.Sx Go.Pl
set_option linter.unusedVariables false
set_option maxRecDepth 100000
theorem zUr(s t:Sht)(K:List It→St→Prop)(R:SV→List HO→Prop):W (xwp Tryz.prog X zMu [] 60 (qO Tryz.f15 [] [⟨[0,1,0,1,1],[5,2,3],[]⟩]) [] [.at []] ⟨qQ 0 [.agg [.x 0 [],.x 1 [],.x 2 [],.x 3 []],.agg [.x 4 [],.x 5 [],.x 6 [],.x 7 []]],[.ext false (.s false 1 s.fx.length (cT s.fx)),.ext false (.s false 1 s.ad.length (cT s.ad)),.ext false (.s false 1 s.is.length (cT s.is)),.ext false (.s false 4 s.cp.length (cP s.cp)),.ext false (.s false 1 t.fx.length (cT t.fx)),.ext false (.s false 1 t.ad.length (cT t.ad)),.ext false (.s false 1 t.is.length (cT t.is)),.ext false (.s false 4 t.cp.length (cP t.cp))]⟩ K R)=W (lT s.1.length (cT s.1) fun(l:List (List Nat))=>lT t.1.length (cT t.1) fun(l2:List (List Nat))=>l2=l∧lT s.2.length (cT s.2) fun(l:List (List Nat))=>lT t.2.length (cT t.2) fun(l2:List (List Nat))=>l2=l∧lT s.3.length (cT s.3) fun(l:List (List Nat))=>lT t.3.length (cT t.3) fun(l2:List (List Nat))=>l2=l∧bif !(↑s.4.length:Int)==(↑t.4.length:Int) then R (.v (.bool false)) [] else K [.at [0,1,0,1,1],.blk 0,.at [1,1,1]] (St.mk [(5,.v (qA 0)),(2,.p 0 0),(3,.p 1 0)] [.cells [.x 2 [],.x 3 [],.x 4 [],.x 5 []] 42,.cells [.x 6 [],.x 7 [],.x 8 [],.x 9 []] 42,.ext false (.s false 1 s.1.length (cT s.1)),.ext false (.s false 1 s.2.length (cT s.2)),.ext false (.s false 1 s.3.length (cT s.3)),.ext false (.s false 4 s.4.length (cP s.4)),.ext false (.s false 1 t.1.length (cT t.1)),.ext false (.s false 1 t.2.length (cT t.2)),.ext false (.s false 1 t.3.length (cT t.3)),.ext false (.s false 4 t.4.length (cP t.4))])):=by kernel_rfl
theorem zTp(s t:Sht)(k M:Nat)(K:List It→St→Prop)(R:SV→List HO→Prop):W (xwp Tryz.prog X zMu [] 60 (qO Tryz.f15 [] [⟨[0,1,0,1,1],[5,2,3],[]⟩]) [] (.at [0,0,1,0,1,1]::.rnd [0,0,1,0,1,1] M::[.blk 0,.at [1,1,1]]) ⟨[(5,.v (.int .i64 (k:Int))),(2,.p 0 0),(3,.p 1 0)],[.cells [.x 2 [],.x 3 [],.x 4 [],.x 5 []] 42,.cells [.x 6 [],.x 7 [],.x 8 [],.x 9 []] 42,.ext false (.s false 1 s.fx.length (cT s.fx)),.ext false (.s false 1 s.ad.length (cT s.ad)),.ext false (.s false 1 s.is.length (cT s.is)),.ext false (.s false 4 s.cp.length (cP s.cp)),.ext false (.s false 1 t.fx.length (cT t.fx)),.ext false (.s false 1 t.ad.length (cT t.ad)),.ext false (.s false 1 t.is.length (cT t.is)),.ext false (.s false 4 t.cp.length (cP t.cp))]⟩ K R)=W (bif decide ((↑k:Int)<(↑s.4.length:Int)) then(∀ M:Mem,(0:Int)≤(↑k:Int)∧(↑k:Int)<(↑s.4.length:Int))∧(∀ M:Mem,k<List.length s.4)∧(∀ M:Mem,(0:Int)≤(↑k:Int)∧(↑k:Int)<(↑t.4.length:Int))∧(∀ M:Mem,k<List.length t.4)∧bif !decide ([(gP s.4 k).1,(gP s.4 k).2.1,(gP s.4 k).2.2.1,(gP s.4 k).2.2.2]=[(gP t.4 k).1,(gP t.4 k).2.1,(gP t.4 k).2.2.1,(gP t.4 k).2.2.2]) then R (.v (.bool false)) [] else K [.rnd [0,0,1,0,1,1] M,.blk 0,.at [1,1,1]] (St.mk [(5,.v (qA (IntKind.wrap .i64 ((↑k:Int)+(1:Int))))),(2,.p 0 0),(3,.p 1 0)] [.cells [.x 2 [],.x 3 [],.x 4 [],.x 5 []] 42,.cells [.x 6 [],.x 7 [],.x 8 [],.x 9 []] 42,.ext false (.s false 1 s.1.length (cT s.1)),.ext false (.s false 1 s.2.length (cT s.2)),.ext false (.s false 1 s.3.length (cT s.3)),.ext false (.s false 4 s.4.length (cP s.4)),.ext false (.s false 1 t.1.length (cT t.1)),.ext false (.s false 1 t.2.length (cT t.2)),.ext false (.s false 1 t.3.length (cT t.3)),.ext false (.s false 4 t.4.length (cP t.4))]) else R (.v (.bool true)) []):=by kernel_rfl
theorem qUi(s:Sht)(hs:s.ok)(Q:SV→List HO→Prop)(hq:Q (.v (.bool true)) []):∀(d k:Nat),k+d=s.cp.length →
  FOk Tryz.prog Tryz.f15 Q (.rnd [0,0,1,0,1,1] (d+1)::[.blk 0,.at [1,1,1]]) ⟨[(5,.v (.int .i64 (k:Int))),(2,.p 0 0),(3,.p 1 0)],[.cells [.x 2 [],.x 3 [],.x 4 [],.x 5 []] 42,.cells [.x 6 [],.x 7 [],.x 8 [],.x 9 []] 42,.ext false (.s false 1 s.fx.length (cT s.fx)),.ext false (.s false 1 s.ad.length (cT s.ad)),.ext false (.s false 1 s.is.length (cT s.is)),.ext false (.s false 4 s.cp.length (cP s.cp)),.ext false (.s false 1 s.fx.length (cT s.fx)),.ext false (.s false 1 s.ad.length (cT s.ad)),.ext false (.s false 1 s.is.length (cT s.is)),.ext false (.s false 4 s.cp.length (cP s.cp))]⟩
 | 0,k,hd=>by
  refine FOk.rnd (qC hm 60 ((zTp s s k 0 _ _).mpr ⟨?_⟩))
  rw[qD,if_neg (by omega)]
  exact hq
 | d+1,k,hd=>by
  have h1:=hs.c.2
  refine FOk.rnd (qC hm 60 ((zTp s s k (d+1) _ _).mpr ⟨?_⟩))
  rw[qD,if_pos (by omega),qK _ (by omega),decide_eq_true rfl]
  exact aI (aI (aI (aI (qUi s hs Q hq d (k+1) (by omega)))))
theorem zXy:Tryz.f15.body.isSome=true:=by kernel_rfl
theorem zWy:Nat.ble [(.agg [.x 0 [],.x 1 [],.x 2 [],.x 3 []]:SV),.agg [.x 4 [],.x 5 [],.x 6 [],.x 7 []]].length Tryz.f15.ntmps=true:=by kernel_rfl
theorem zMq(s:Sht)(hs:s.ok)(Q:SV→List HO→Prop)(hq:Q (.v (.bool true)) []):qI Tryz.prog 15 [.agg [.x 0 [],.x 1 [],.x 2 [],.x 3 []],.agg [.x 4 [],.x 5 [],.x 6 [],.x 7 []]] [.ext false (.s false 1 s.fx.length (cT s.fx)),.ext false (.s false 1 s.ad.length (cT s.ad)),.ext false (.s false 1 s.is.length (cT s.is)),.ext false (.s false 4 s.cp.length (cP s.cp)),.ext false (.s false 1 s.fx.length (cT s.fx)),.ext false (.s false 1 s.ad.length (cT s.ad)),.ext false (.s false 1 s.is.length (cT s.is)),.ext false (.s false 4 s.cp.length (cP s.cp))] Q:=by
 refine qL Tryz.func15 zXy ?_ ?_
 ·exact zWy
 refine qC hm 60 ((zUr s s _ _).mpr ⟨?_⟩)
 refine qDe hs.f (qDe hs.f ⟨rfl,qDe hs.a (qDe hs.a ⟨rfl,qDe hs.i (qDe hs.i ⟨rfl,?_⟩)⟩)⟩)
 simp only[beq_self_eq_true,Bool.not_true,cond_false]
 exact FOk.loop (s.cp.length+1) (by kernel_rfl) (qUi s hs Q hq s.cp.length 0 (by omega))
noncomputable def zLs:List SV→List HO→Option ((SV→List HO→Prop)→Prop)
 | [.agg [.x 0 [],.x 1 [],.x 2 [],.x 3 []],.agg [.x 4 [],.x 5 [],.x 6 [],.x 7 []]],[.ext false (.s false 1 n0 c0),.ext false (.s false 1 n1 c1),.ext false (.s false 1 n2 c2),.ext false (.s false 4 n3 c3),.ext false (.s false 1 m0 d0),.ext false (.s false 1 m1 d1),.ext false (.s false 1 m2 d2),.ext false (.s false 4 m3 d3)] =>
  some fun Q=>lS n0 n1 n2 n3 c0 c1 c2 c3 fun s=>lS m0 m1 m2 m3 d0 d1 d2 d3 fun t=>t=s∧Q (.v (.bool true)) []
 | _,_=>none
theorem zFv(args:List SV)(h:List HO)(tr:(SV→List HO→Prop)→Prop)(Q:SV→List HO→Prop)(hc:zLs args h=some tr)(ht:tr Q):qI Tryz.prog 15 args h Q:=by
 unfold zLs at hc
 split at hc
 ·simp only[sI] at hc
  subst hc
  obtain⟨s,⟨rfl,e0⟩,⟨rfl,e1⟩,⟨rfl,e2⟩,⟨rfl,e3⟩,hs,ht2⟩:=ht.h
  obtain⟨t,⟨rfl,e4⟩,⟨rfl,e5⟩,⟨rfl,e6⟩,⟨rfl,e7⟩,ht3,rfl,hq⟩:=ht2.h
  exact qI.ac (zMq _ hs Q hq) ⟨⟨rfl,rfl,rfl,rfl,e0⟩,⟨rfl,rfl,rfl,rfl,e1⟩,⟨rfl,rfl,rfl,rfl,e2⟩,⟨rfl,rfl,rfl,rfl,e3⟩,⟨rfl,rfl,rfl,rfl,e4⟩,⟨rfl,rfl,rfl,rfl,e5⟩,⟨rfl,rfl,rfl,rfl,e6⟩,⟨rfl,rfl,rfl,rfl,e7⟩,trivial⟩
 ·cases hc
noncomputable def zLn:Con Tryz.prog:=zMu.add 15 zLs zFv
end Go.Proofs.YtlmjdcbhpffanaaGreat
/- RegionLayouts. -/
namespace Go.Proofs.YtlmjdcbhpffanaaGreat
open Go.Sx Go.Pl
set_option linter.unusedVariables false
set_option maxRecDepth 100000
theorem zXs(c:Cir)(p:Pln)(k:Int)(K:List It→St→Prop)(R:SV→List HO→Prop):W (xwp Tryz.prog X (zLn.add 12 qXf qHe) [(14,[([0,1,0,1,1],1)]),(15,[([0,1,0,1,1],1)]),(17,[([0,1,0,1,1],1)])] 60 (qO Tryz.f3 [] [⟨[0,1,0,1,1,1,1,1,1,1,1,1],[15,8,5],[]⟩,⟨[0,1,0,0,1,0,0,1,0,1,1,1,1,1,1,1,1,1],[16,15,8,5],[]⟩]) [] [.at []] ⟨qQ 0 [.agg [.v (.int .i64 c.fx),.v (.int .i64 c.ad),.v (.int .i64 c.ins),.x 0 [],.x 1 [],.x 2 [],.x 3 []],.v (.int .i64 k),.agg [.x 4 [],.x 5 [],.x 6 [],.x 7 []]],[.ext false (.s false 7 c.4.length (cN c.4)),.ext false (.s false 1 c.5.length (cI c.5)),.ext false (.s false 2 c.6.length (cL c.6)),.ext false (.s false 2 c.7.length (cK c.7)),.ext false (.s false 2 p.1.length (cRg p.1)),.ext false (.s false 2 p.2.length (cTa p.2)),.ext false (.s false 6 p.3.length (cLk p.3)),.ext false (.s false 1 p.4.length (cT p.4))]⟩ K R)=W (lSh c.1 c.2 c.3 c.4.length c.5.length c.6.length c.7.length p.1.length p.2.length p.3.length p.4.length (cN c.4) (cI c.5) (cL c.6) (cK c.7) (cRg p.1) (cTa p.2) (cLk p.3) (cT p.4) fun(c_1:Cir) (p_1:Pln)=>lBo fun(b:Bool)=>bif b then R (.v (.bool true)) [] else lC c.1 c.2 c.3 c.4.length c.5.length c.6.length c.7.length (cN c.4) (cI c.5) (cL c.6) (cK c.7) fun(c_2:Cir)=>(∀ M:Mem,0+7≤7)∧lPn p.1.length p.2.length p.3.length p.4.length (cRg p.1) (cTa p.2) (cLk p.3) (cT p.4) fun(p_2:Pln)=>(∀ M:Mem,0+4≤4)∧lSh c_2.1 c_2.2 c_2.3 c_2.4.length c_2.5.length c_2.6.length c_2.7.length p_2.1.length p_2.2.length p_2.3.length p_2.4.length (cN c_2.4) (cI c_2.5) (cL c_2.6) (cK c_2.7) (cRg p_2.1) (cTa p_2.2) (cLk p_2.3) (cT p_2.4) fun(c_3:Cir) (p_3:Pln)=>lSh c.1 c.2 c.3 c.4.length c.5.length c.6.length c.7.length p.1.length p.2.length p.3.length p.4.length (cN c.4) (cI c.5) (cL c.6) (cK c.7) (cRg p.1) (cTa p.2) (cLk p.3) (cT p.4) fun(c_4:Cir) (p_4:Pln)=>bif !yT c_3 k p_3==yT c_4 k p_4 then R (.v (.bool false)) [] else lLy c_2.1 c_2.2 c_2.3 k c_2.4.length c_2.5.length c_2.6.length c_2.7.length p_2.1.length p_2.2.length p_2.3.length p_2.4.length (cN c_2.4) (cI c_2.5) (cL c_2.6) (cK c_2.7) (cRg p_2.1) (cTa p_2.2) (cLk p_2.3) (cT p_2.4) (fun(e:Int)=>(∀ M:Mem,4≤4)∧lLy c.1 c.2 c.3 k c.4.length c.5.length c.6.length c.7.length p.1.length p.2.length p.3.length p.4.length (cN c.4) (cI c.5) (cL c.6) (cK c.7) (cRg p.1) (cTa p.2) (cLk p.3) (cT p.4) (fun(e_1:Int)=>(∀ M:Mem,4≤4)∧bif !e==e_1 then R (.v (.bool false)) [] else lC c_2.1 c_2.2 c_2.3 c_2.4.length c_2.5.length c_2.6.length c_2.7.length (cN c_2.4) (cI c_2.5) (cL c_2.6) (cK c_2.7) fun(c_5:Cir)=>lC c.1 c.2 c.3 c.4.length c.5.length c.6.length c.7.length (cN c.4) (cI c.5) (cL c.6) (cK c.7) fun(d:Cir)=>d=c_5∧K [.at [0,1,0,1,1,1,1,1,1,1,1,1],.blk 0,.at [1,1,1,1,1,1,1,1,1,1]] (St.mk [(15,.v (qA 0)),(8,.p 0 0),(5,.p 1 0)] [.cells [.x 2 [],.x 3 [],.x 4 [],.x 5 []] 33,.cells [.x 6 [],.x 7 [],.x 8 [],.x 9 []] 33,.ext false (.s false 2 p_2.1.length (cRg p_2.1)),.ext false (.s false 2 p_2.2.length (cTa p_2.2)),.ext false (.s false 6 p_2.3.length (cLk p_2.3)),.ext false (.s false 1 p_2.4.length (cT p_2.4)),.ext false (.s false 2 p.1.length (cRg p.1)),.ext false (.s false 2 p.2.length (cTa p.2)),.ext false (.s false 6 p.3.length (cLk p.3)),.ext false (.s false 1 p.4.length (cT p.4))])) fun(s:Sht) (ss:List Int)=>(∀ M:Mem,0+4≤4)∧bif !e==(0:Int) then R (.v (.bool false)) [] else bif !(0:Int)==(↑ss.length:Int) then R (.v (.bool false)) [] else bif !(0:Int)==(↑s.1.length:Int) then R (.v (.bool false)) [] else bif !(0:Int)==(↑s.2.length:Int) then R (.v (.bool false)) [] else bif !(0:Int)==(↑s.3.length:Int) then R (.v (.bool false)) [] else bif !(0:Int)==(↑s.4.length:Int) then R (.v (.bool false)) [] else lC c_2.1 c_2.2 c_2.3 c_2.4.length c_2.5.length c_2.6.length c_2.7.length (cN c_2.4) (cI c_2.5) (cL c_2.6) (cK c_2.7) fun(c_5:Cir)=>lC c.1 c.2 c.3 c.4.length c.5.length c.6.length c.7.length (cN c.4) (cI c.5) (cL c.6) (cK c.7) fun(d:Cir)=>d=c_5∧K [.at [0,1,0,1,1,1,1,1,1,1,1,1],.blk 0,.at [1,1,1,1,1,1,1,1,1,1]] (St.mk [(15,.v (qA 0)),(8,.p 0 0),(5,.p 1 0)] [.cells [.x 2 [],.x 3 [],.x 4 [],.x 5 []] 33,.cells [.x 6 [],.x 7 [],.x 8 [],.x 9 []] 33,.ext false (.s false 2 p_2.1.length (cRg p_2.1)),.ext false (.s false 2 p_2.2.length (cTa p_2.2)),.ext false (.s false 6 p_2.3.length (cLk p_2.3)),.ext false (.s false 1 p_2.4.length (cT p_2.4)),.ext false (.s false 2 p.1.length (cRg p.1)),.ext false (.s false 2 p.2.length (cTa p.2)),.ext false (.s false 6 p.3.length (cLk p.3)),.ext false (.s false 1 p.4.length (cT p.4))])) fun(s:Sht) (ss:List Int)=>(∀ M:Mem,0+4≤4)∧lLy c.1 c.2 c.3 k c.4.length c.5.length c.6.length c.7.length p.1.length p.2.length p.3.length p.4.length (cN c.4) (cI c.5) (cL c.6) (cK c.7) (cRg p.1) (cTa p.2) (cLk p.3) (cT p.4) (fun(e:Int)=>(∀ M:Mem,4≤4)∧bif !(0:Int)==e then R (.v (.bool false)) [] else bif !(↑ss.length:Int)==(0:Int) then R (.v (.bool false)) [] else bif decide ((0:Int)<(↑ss.length:Int)) then(∀ M:Mem,(0:Int)≤(0:Int)∧(0:Int)<(↑ss.length:Int))∧(∀ M:Mem,0<List.length ss)∧(∀ M:Mem,(0:Int)≤(0:Int)∧(0:Int)<(0:Int))∧(∀ M:Mem,false=true)∧False else bif !(↑s.1.length:Int)==(0:Int) then R (.v (.bool false)) [] else bif decide ((0:Int)<(↑s.1.length:Int)) then(∀ M:Mem,(0:Int)≤(0:Int)∧(0:Int)<(↑s.1.length:Int))∧(∀ M:Mem,0<List.length s.1)∧(∀ M:Mem,(0:Int)≤(0:Int)∧(0:Int)<(0:Int))∧(∀ M:Mem,false=true)∧False else bif !(↑s.2.length:Int)==(0:Int) then R (.v (.bool false)) [] else bif decide ((0:Int)<(↑s.2.length:Int)) then(∀ M:Mem,(0:Int)≤(0:Int)∧(0:Int)<(↑s.2.length:Int))∧(∀ M:Mem,0<List.length s.2)∧(∀ M:Mem,(0:Int)≤(0:Int)∧(0:Int)<(0:Int))∧(∀ M:Mem,false=true)∧False else bif !(↑s.3.length:Int)==(0:Int) then R (.v (.bool false)) [] else bif decide ((0:Int)<(↑s.3.length:Int)) then(∀ M:Mem,(0:Int)≤(0:Int)∧(0:Int)<(↑s.3.length:Int))∧(∀ M:Mem,0<List.length s.3)∧(∀ M:Mem,(0:Int)≤(0:Int)∧(0:Int)<(0:Int))∧(∀ M:Mem,false=true)∧False else bif !(↑s.4.length:Int)==(0:Int) then R (.v (.bool false)) [] else bif decide ((0:Int)<(↑s.4.length:Int)) then(∀ M:Mem,(0:Int)≤(0:Int)∧(0:Int)<(↑s.4.length:Int))∧(∀ M:Mem,0<List.length s.4)∧(∀ M:Mem,(0:Int)≤(0:Int)∧(0:Int)<(0:Int))∧(∀ M:Mem,false=true)∧False else lC c_2.1 c_2.2 c_2.3 c_2.4.length c_2.5.length c_2.6.length c_2.7.length (cN c_2.4) (cI c_2.5) (cL c_2.6) (cK c_2.7) fun(c_5:Cir)=>lC c.1 c.2 c.3 c.4.length c.5.length c.6.length c.7.length (cN c.4) (cI c.5) (cL c.6) (cK c.7) fun(d:Cir)=>d=c_5∧K [.at [0,1,0,1,1,1,1,1,1,1,1,1],.blk 0,.at [1,1,1,1,1,1,1,1,1,1]] (St.mk [(15,.v (qA 0)),(8,.p 0 0),(5,.p 1 0)] [.cells [.x 2 [],.x 3 [],.x 4 [],.x 5 []] 33,.cells [.x 6 [],.x 7 [],.x 8 [],.x 9 []] 33,.ext false (.s false 2 p_2.1.length (cRg p_2.1)),.ext false (.s false 2 p_2.2.length (cTa p_2.2)),.ext false (.s false 6 p_2.3.length (cLk p_2.3)),.ext false (.s false 1 p_2.4.length (cT p_2.4)),.ext false (.s false 2 p.1.length (cRg p.1)),.ext false (.s false 2 p.2.length (cTa p.2)),.ext false (.s false 6 p.3.length (cLk p.3)),.ext false (.s false 1 p.4.length (cT p.4))])) fun(s_1:Sht) (ss_1:List Int)=>(∀ M:Mem,0+4≤4)∧lI2 ss.length ss_1.length (cI ss) (cI ss_1) fun(l l2:List Int)=>bif !decide (l=l2) then R (.v (.bool false)) [] else lS s.1.length s.2.length s.3.length s.4.length (cT s.1) (cT s.2) (cT s.3) (cP s.4) fun(s:Sht)=>lS s_1.1.length s_1.2.length s_1.3.length s_1.4.length (cT s_1.1) (cT s_1.2) (cT s_1.3) (cP s_1.4) fun(t:Sht)=>t=s∧lC c_2.1 c_2.2 c_2.3 c_2.4.length c_2.5.length c_2.6.length c_2.7.length (cN c_2.4) (cI c_2.5) (cL c_2.6) (cK c_2.7) fun(c_5:Cir)=>lC c.1 c.2 c.3 c.4.length c.5.length c.6.length c.7.length (cN c.4) (cI c.5) (cL c.6) (cK c.7) fun(d:Cir)=>d=c_5∧K [.at [0,1,0,1,1,1,1,1,1,1,1,1],.blk 0,.at [1,1,1,1,1,1,1,1,1,1]] (St.mk [(15,.v (qA 0)),(8,.p 0 0),(5,.p 1 0)] [.cells [.x 2 [],.x 3 [],.x 4 [],.x 5 []] 33,.cells [.x 6 [],.x 7 [],.x 8 [],.x 9 []] 33,.ext false (.s false 2 p_2.1.length (cRg p_2.1)),.ext false (.s false 2 p_2.2.length (cTa p_2.2)),.ext false (.s false 6 p_2.3.length (cLk p_2.3)),.ext false (.s false 1 p_2.4.length (cT p_2.4)),.ext false (.s false 2 p.1.length (cRg p.1)),.ext false (.s false 2 p.2.length (cTa p.2)),.ext false (.s false 6 p.3.length (cLk p.3)),.ext false (.s false 1 p.4.length (cT p.4))])):=by kernel_rfl
theorem zTn(c:Cir)(p:Pln)(i M:Nat)(K:List It→St→Prop)(R:SV→List HO→Prop):W (xwp Tryz.prog X (zLn.add 12 qXf qHe) [(14,[([0,1,0,1,1],1)]),(15,[([0,1,0,1,1],1)]),(17,[([0,1,0,1,1],1)])] 60 (qO Tryz.f3 [] [⟨[0,1,0,1,1,1,1,1,1,1,1,1],[15,8,5],[]⟩,⟨[0,1,0,0,1,0,0,1,0,1,1,1,1,1,1,1,1,1],[16,15,8,5],[]⟩]) [] (.at [0,0,1,0,1,1,1,1,1,1,1,1,1]::.rnd [0,0,1,0,1,1,1,1,1,1,1,1,1] M::[.blk 0,.at [1,1,1,1,1,1,1,1,1,1]]) (St.mk [(15,.v (qA (i:Int))),(8,.p 0 0),(5,.p 1 0)] [.cells [.x 2 [],.x 3 [],.x 4 [],.x 5 []] 33,.cells [.x 6 [],.x 7 [],.x 8 [],.x 9 []] 33,.ext false (.s false 2 p.1.length (cRg p.1)),.ext false (.s false 2 p.2.length (cTa p.2)),.ext false (.s false 6 p.3.length (cLk p.3)),.ext false (.s false 1 p.4.length (cT p.4)),.ext false (.s false 2 p.1.length (cRg p.1)),.ext false (.s false 2 p.2.length (cTa p.2)),.ext false (.s false 6 p.3.length (cLk p.3)),.ext false (.s false 1 p.4.length (cT p.4))]) K R)=W (bif decide ((↑i:Int)<(↑p.1.length:Int)) then K [.at [0,1,0,0,1,0,0,1,0,1,1,1,1,1,1,1,1,1],.blk 2,.blk 1,.at [1,1,0,0,1,0,1,1,1,1,1,1,1,1,1],.rnd [0,0,1,0,1,1,1,1,1,1,1,1,1] M,.blk 0,.at [1,1,1,1,1,1,1,1,1,1]] (St.mk [(16,.v (qA 0)),(15,.v (qA (↑i:Int))),(8,.p 0 0),(5,.p 1 0)] [.cells [.x 2 [],.x 3 [],.x 4 [],.x 5 []] 33,.cells [.x 6 [],.x 7 [],.x 8 [],.x 9 []] 33,.ext false (.s false 2 p.1.length (cRg p.1)),.ext false (.s false 2 p.2.length (cTa p.2)),.ext false (.s false 6 p.3.length (cLk p.3)),.ext false (.s false 1 p.4.length (cT p.4)),.ext false (.s false 2 p.1.length (cRg p.1)),.ext false (.s false 2 p.2.length (cTa p.2)),.ext false (.s false 6 p.3.length (cLk p.3)),.ext false (.s false 1 p.4.length (cT p.4))]) else lT p.4.length (cT p.4) fun(l:List (List Nat))=>lT p.4.length (cT p.4) fun(l2:List (List Nat))=>l2=l∧R (.v (.bool true)) []):=by kernel_rfl
theorem zPs(c:Cir)(p:Pln)(i j M M2:Nat)(K:List It→St→Prop)(R:SV→List HO→Prop):W (xwp Tryz.prog X (zLn.add 12 qXf qHe) [(14,[([0,1,0,1,1],1)]),(15,[([0,1,0,1,1],1)]),(17,[([0,1,0,1,1],1)])] 60 (qO Tryz.f3 [] [⟨[0,1,0,1,1,1,1,1,1,1,1,1],[15,8,5],[]⟩,⟨[0,1,0,0,1,0,0,1,0,1,1,1,1,1,1,1,1,1],[16,15,8,5],[]⟩]) [] (.at [0,0,1,0,0,1,0,0,1,0,1,1,1,1,1,1,1,1,1]::.rnd [0,0,1,0,0,1,0,0,1,0,1,1,1,1,1,1,1,1,1] M::[.blk 2,.blk 1,.at [1,1,0,0,1,0,1,1,1,1,1,1,1,1,1],.rnd [0,0,1,0,1,1,1,1,1,1,1,1,1] M2,.blk 0,.at [1,1,1,1,1,1,1,1,1,1]]) (St.mk [(16,.v (qA (j:Int))),(15,.v (qA (↑i:Int))),(8,.p 0 0),(5,.p 1 0)] [.cells [.x 2 [],.x 3 [],.x 4 [],.x 5 []] 33,.cells [.x 6 [],.x 7 [],.x 8 [],.x 9 []] 33,.ext false (.s false 2 p.1.length (cRg p.1)),.ext false (.s false 2 p.2.length (cTa p.2)),.ext false (.s false 6 p.3.length (cLk p.3)),.ext false (.s false 1 p.4.length (cT p.4)),.ext false (.s false 2 p.1.length (cRg p.1)),.ext false (.s false 2 p.2.length (cTa p.2)),.ext false (.s false 6 p.3.length (cLk p.3)),.ext false (.s false 1 p.4.length (cT p.4))]) K R)=W ((∀ M:Mem,(0:Int)≤(↑i:Int)∧(↑i:Int)<(↑p.1.length:Int))∧(∀ M:Mem,i<List.length p.1)∧(∀ M:Mem,i<List.length p.1)∧(∀ M:Mem,i<List.length p.1)∧bif decide ((↑j:Int)<(↑(List.length (gRg p.1 i).2):Int)) then(∀ M:Mem,(0:Int)≤(↑i:Int)∧(↑i:Int)<(↑p.1.length:Int))∧(∀ M:Mem,i<List.length p.1)∧(∀ M:Mem,i<List.length p.1)∧(∀ M:Mem,i<List.length p.1)∧(∀ M:Mem,(0:Int)≤(↑j:Int)∧(↑j:Int)<(↑(List.length (gRg p.1 i).2):Int))∧(∀ M:Mem,i<List.length p.1)∧(∀ M:Mem,j<List.length (gRg p.1 i).2)∧(∀ M:Mem,(0:Int)≤(↑i:Int)∧(↑i:Int)<(↑p.1.length:Int))∧(∀ M:Mem,i<List.length p.1)∧(∀ M:Mem,i<List.length p.1)∧(∀ M:Mem,i<List.length p.1)∧(∀ M:Mem,(0:Int)≤(↑j:Int)∧(↑j:Int)<(↑(List.length (gRg p.1 i).2):Int))∧(∀ M:Mem,i<List.length p.1)∧(∀ M:Mem,j<List.length (gRg p.1 i).2)∧bif !decide ([(gPt (gRg p.1 i).2 j).1,(gPt (gRg p.1 i).2 j).2,(gPt (gRg p.1 i).2 j).3,(↑(qF (gPt (gRg p.1 i).2 j).4 0):Int),(↑(qF (gPt (gRg p.1 i).2 j).4 1):Int),(↑(qF (gPt (gRg p.1 i).2 j).4 2):Int),(↑(qF (gPt (gRg p.1 i).2 j).4 3):Int)]=[(gPt (gRg p.1 i).2 j).1,(gPt (gRg p.1 i).2 j).2,(gPt (gRg p.1 i).2 j).3,(↑(qF (gPt (gRg p.1 i).2 j).4 0):Int),(↑(qF (gPt (gRg p.1 i).2 j).4 1):Int),(↑(qF (gPt (gRg p.1 i).2 j).4 2):Int),(↑(qF (gPt (gRg p.1 i).2 j).4 3):Int)]) then R (.v (.bool false)) [] else K [.rnd [0,0,1,0,0,1,0,0,1,0,1,1,1,1,1,1,1,1,1] M,.blk 2,.blk 1,.at [1,1,0,0,1,0,1,1,1,1,1,1,1,1,1],.rnd [0,0,1,0,1,1,1,1,1,1,1,1,1] M2,.blk 0,.at [1,1,1,1,1,1,1,1,1,1]] (St.mk [(16,.v (qA (IntKind.wrap .i64 ((↑j:Int)+(1:Int))))),(15,.v (qA (↑i:Int))),(8,.p 0 0),(5,.p 1 0)] [.cells [.x 2 [],.x 3 [],.x 4 [],.x 5 []] 33,.cells [.x 6 [],.x 7 [],.x 8 [],.x 9 []] 33,.ext false (.s false 2 p.1.length (cRg p.1)),.ext false (.s false 2 p.2.length (cTa p.2)),.ext false (.s false 6 p.3.length (cLk p.3)),.ext false (.s false 1 p.4.length (cT p.4)),.ext false (.s false 2 p.1.length (cRg p.1)),.ext false (.s false 2 p.2.length (cTa p.2)),.ext false (.s false 6 p.3.length (cLk p.3)),.ext false (.s false 1 p.4.length (cT p.4))]) else K [.rnd [0,0,1,0,1,1,1,1,1,1,1,1,1] M2,.blk 0,.at [1,1,1,1,1,1,1,1,1,1]] (St.mk [(15,.v (qA (IntKind.wrap .i64 ((↑i:Int)+(1:Int))))),(8,.p 0 0),(5,.p 1 0)] [.cells [.x 2 [],.x 3 [],.x 4 [],.x 5 []] 33,.cells [.x 6 [],.x 7 [],.x 8 [],.x 9 []] 33,.ext false (.s false 2 p.1.length (cRg p.1)),.ext false (.s false 2 p.2.length (cTa p.2)),.ext false (.s false 6 p.3.length (cLk p.3)),.ext false (.s false 1 p.4.length (cT p.4)),.ext false (.s false 2 p.1.length (cRg p.1)),.ext false (.s false 2 p.2.length (cTa p.2)),.ext false (.s false 6 p.3.length (cLk p.3)),.ext false (.s false 1 p.4.length (cT p.4))])):=by kernel_rfl
theorem qPx(c:Cir)(p:Pln)(hp:p.ok)(i M2:Nat)(hi:i<p.rg.length)(Q:SV→List HO→Prop)(hq:FOk Tryz.prog Tryz.f3 Q (.rnd [0,0,1,0,1,1,1,1,1,1,1,1,1] M2::[.blk 0,.at [1,1,1,1,1,1,1,1,1,1]]) (St.mk [(15,SV.v (qA ((i+1:Nat):Int))),(8,SV.p 0 0),(5,SV.p 1 0)] [HO.cells [SV.x 2 [],SV.x 3 [],SV.x 4 [],SV.x 5 []] 33,HO.cells [SV.x 6 [],SV.x 7 [],SV.x 8 [],SV.x 9 []] 33,HO.ext false (qB.s false 2 (List.length p.1) (cRg p.1)),HO.ext false (qB.s false 2 (List.length p.2) (cTa p.2)),HO.ext false (qB.s false 6 (List.length p.3) (cLk p.3)),HO.ext false (qB.s false 1 (List.length p.4) (cT p.4)),HO.ext false (qB.s false 2 (List.length p.1) (cRg p.1)),HO.ext false (qB.s false 2 (List.length p.2) (cTa p.2)),HO.ext false (qB.s false 6 (List.length p.3) (cLk p.3)),HO.ext false (qB.s false 1 (List.length p.4) (cT p.4))])):∀(d j:Nat),j+d=(gRg p.rg i).2.length →
  FOk Tryz.prog Tryz.f3 Q (.rnd [0,0,1,0,0,1,0,0,1,0,1,1,1,1,1,1,1,1,1] (d+1)::[.blk 2,.blk 1,.at [1,1,0,0,1,0,1,1,1,1,1,1,1,1,1],.rnd [0,0,1,0,1,1,1,1,1,1,1,1,1] M2,.blk 0,.at [1,1,1,1,1,1,1,1,1,1]]) (St.mk [(16,SV.v (qA (j:Int))),(15,SV.v (qA (↑i:Int))),(8,SV.p 0 0),(5,SV.p 1 0)] [HO.cells [SV.x 2 [],SV.x 3 [],SV.x 4 [],SV.x 5 []] 33,HO.cells [SV.x 6 [],SV.x 7 [],SV.x 8 [],SV.x 9 []] 33,HO.ext false (qB.s false 2 (List.length p.1) (cRg p.1)),HO.ext false (qB.s false 2 (List.length p.2) (cTa p.2)),HO.ext false (qB.s false 6 (List.length p.3) (cLk p.3)),HO.ext false (qB.s false 1 (List.length p.4) (cT p.4)),HO.ext false (qB.s false 2 (List.length p.1) (cRg p.1)),HO.ext false (qB.s false 2 (List.length p.2) (cTa p.2)),HO.ext false (qB.s false 6 (List.length p.3) (cLk p.3)),HO.ext false (qB.s false 1 (List.length p.4) (cT p.4))])
 | 0,j,hd=>by
  have hb:=hp.r.2
  refine FOk.rnd (qC hm 60 ((zPs c p i j 0 M2 _ _).mpr ⟨?_⟩))
  repeat' (refine And.intro (fun _=>by omega) ?_)
  rw[qD,if_neg (by omega),qK i (by omega)]
  exact hq
 | d+1,j,hd=>by
  have hb:=hp.r.2
  have hb2:=(hp.r.1 _ (zR hi)).2.2
  refine FOk.rnd (qC hm 60 ((zPs c p i j (d+1) M2 _ _).mpr ⟨?_⟩))
  repeat' (refine And.intro (fun _=>by omega) ?_)
  rw[qD,if_pos (by omega),qK j (by omega)]
  repeat' (refine And.intro (fun _=>by omega) ?_)
  rw[decide_eq_true rfl,Bool.not_true,cond_false]
  exact qPx c p hp i M2 hi Q hq d (j+1) (by omega)
theorem qOu(c:Cir)(p:Pln)(hp:p.ok)(Q:SV→List HO→Prop)(hq:Q (SV.v (Value.bool true)) []):∀(d i:Nat),i+d=p.rg.length →
  FOk Tryz.prog Tryz.f3 Q (.rnd [0,0,1,0,1,1,1,1,1,1,1,1,1] (d+1)::[.blk 0,.at [1,1,1,1,1,1,1,1,1,1]]) (St.mk [(15,SV.v (qA (i:Int))),(8,SV.p 0 0),(5,SV.p 1 0)] [HO.cells [SV.x 2 [],SV.x 3 [],SV.x 4 [],SV.x 5 []] 33,HO.cells [SV.x 6 [],SV.x 7 [],SV.x 8 [],SV.x 9 []] 33,HO.ext false (qB.s false 2 (List.length p.1) (cRg p.1)),HO.ext false (qB.s false 2 (List.length p.2) (cTa p.2)),HO.ext false (qB.s false 6 (List.length p.3) (cLk p.3)),HO.ext false (qB.s false 1 (List.length p.4) (cT p.4)),HO.ext false (qB.s false 2 (List.length p.1) (cRg p.1)),HO.ext false (qB.s false 2 (List.length p.2) (cTa p.2)),HO.ext false (qB.s false 6 (List.length p.3) (cLk p.3)),HO.ext false (qB.s false 1 (List.length p.4) (cT p.4))])
 | 0,i,hd=>by
  refine FOk.rnd (qC hm 60 ((zTn c p i 0 _ _).mpr ⟨?_⟩))
  rw[qD,if_neg (by omega)]
  exact qDe hp.i (qDe hp.i ⟨rfl,hq⟩)
 | d+1,i,hd=>by
  refine FOk.rnd (qC hm 60 ((zTn c p i (d+1) _ _).mpr ⟨?_⟩))
  rw[qD,if_pos (by omega)]
  exact FOk.loop ((gRg p.rg i).2.length+1) (by kernel_rfl) (qPx c p hp i (d+1) (by omega) Q (qOu c p hp Q hq d (i+1) (by omega)) (gRg p.rg i).2.length 0 (by omega))
theorem zUy:Tryz.f3.body.isSome=true:=by kernel_rfl
theorem zXr(c:Cir)(k:Int):Nat.ble ([.agg [.v (.int .i64 c.fx),.v (.int .i64 c.ad),.v (.int .i64 c.ins),.x 0 [],.x 1 [],.x 2 [],.x 3 []],.v (.int .i64 k),.agg [.x 4 [],.x 5 [],.x 6 [],.x 7 []]]:List SV).length Tryz.f3.ntmps=true:=by kernel_rfl
theorem qHu(c:Cir)(hc:c.ok)(p:Pln)(hp:p.ok)(k:Int)(Q:SV→List HO→Prop)(hq:Q (.v (.bool true)) []):qI Tryz.prog 3 [.agg [.v (.int .i64 c.fx),.v (.int .i64 c.ad),.v (.int .i64 c.ins),.x 0 [],.x 1 [],.x 2 [],.x 3 []],.v (.int .i64 k),.agg [.x 4 [],.x 5 [],.x 6 [],.x 7 []]] [.ext false (.s false 7 c.4.length (cN c.4)),.ext false (.s false 1 c.5.length (cI c.5)),.ext false (.s false 2 c.6.length (cL c.6)),.ext false (.s false 2 c.7.length (cK c.7)),.ext false (.s false 2 p.1.length (cRg p.1)),.ext false (.s false 2 p.2.length (cTa p.2)),.ext false (.s false 6 p.3.length (cLk p.3)),.ext false (.s false 1 p.4.length (cT p.4))] Q:=by
 refine qL Tryz.func3 zUy (zXr c k) ?_
 refine qC hm 60 ((zXs c p k _ _).mpr ⟨?_⟩)
 have hK:FOk Tryz.prog Tryz.f3 Q (.at [0,1,0,1,1,1,1,1,1,1,1,1]::[.blk 0,.at [1,1,1,1,1,1,1,1,1,1]]) (St.mk [(15,SV.v (qA (0:Int))),(8,SV.p 0 0),(5,SV.p 1 0)] [HO.cells [SV.x 2 [],SV.x 3 [],SV.x 4 [],SV.x 5 []] 33,HO.cells [SV.x 6 [],SV.x 7 [],SV.x 8 [],SV.x 9 []] 33,HO.ext false (qB.s false 2 (List.length p.1) (cRg p.1)),HO.ext false (qB.s false 2 (List.length p.2) (cTa p.2)),HO.ext false (qB.s false 6 (List.length p.3) (cLk p.3)),HO.ext false (qB.s false 1 (List.length p.4) (cT p.4)),HO.ext false (qB.s false 2 (List.length p.1) (cRg p.1)),HO.ext false (qB.s false 2 (List.length p.2) (cTa p.2)),HO.ext false (qB.s false 6 (List.length p.3) (cLk p.3)),HO.ext false (qB.s false 1 (List.length p.4) (cT p.4))]):=FOk.loop (p.rg.length+1) (by kernel_rfl) (qOu c p hp Q hq p.rg.length 0 (by omega))
 have S4:∀(_:Mem),4≤4:=fun _=>Nat.le_refl 4
 refine jX c hc p hp ⟨fun b=>qJ (fun _=>hq) fun _=>?_⟩
 refine qBt c hc (aI (qYe p hp (aI (jX c hc p hp (jX c hc p hp ?_)))))
 rw[beq_self_eq_true,Bool.not_true,cond_false]
 refine⟨jX c hc p hp ⟨fun hne=>And.intro S4 ⟨jX c hc p hp ⟨fun _=>And.intro S4 ?_,fun h0=>absurd h0 hne⟩⟩,fun h0=>And.intro (fun _=>by omega) ⟨jX c hc p hp ⟨fun hne=>absurd h0 hne,fun _=>And.intro (fun _=>by omega) ⟨⟨_,_,rfl,IsC.refl _ _ _,rfl,IsC.refl _ _ _,?_,?_⟩⟩⟩⟩⟩⟩
 ·rw[beq_self_eq_true,Bool.not_true,cond_false]
  exact qBt c hc (qBt c hc ⟨rfl,hK⟩)
 ·have hb:=hp.r.2
  rw[zCw h0]; omega
 ·rw[decide_eq_true rfl,Bool.not_true,cond_false]
  exact zIr _ (qSy hp h0) (zIr _ (qSy hp h0) ⟨rfl,qBt c hc (qBt c hc ⟨rfl,hK⟩)⟩)
end Go.Proofs.YtlmjdcbhpffanaaGreat
/- Arguments' types: plans. -/
namespace Go.Pl
open Go.Sx
def zNd(x:Int×Int×Int)(j:Nat):qB :=
 match j with
 | 0=>.v (.int .i64 x.1)
 | 1=>.v (.int .i64 x.2.1)
 | 2=>.v (.int .i64 x.2.2)
 | _=>.v undef
noncomputable def zGq(p:Pln)(j:Nat):qB :=
 match j with
 | 0=>.s false 2 p.rg.length (cRg p.rg)
 | 1=>.s false 2 p.tb.length (cTa p.tb)
 | 2=>.s false 6 p.lk.length (cLk p.lk)
 | 3=>.s false 1 p.is.length (cT p.is)
 | _=>.v undef
end Go.Pl
namespace Go.Proofs.YtlmjdcbhpffanaaGreat
open Go.Sx Go.Pl Go.RowKit Go.ChangeShapes Go.WideShapes Go.ChangeAt
set_option linter.unusedVariables false
set_option maxRecDepth 100000
theorem u55:Tryz.prog.underlying 55=some (.struct #[⟨"Kind",3,0,false, "", "",0⟩,⟨"Col",3,1,false, "", "",8⟩,⟨"Off",3,2,false, "", "",16⟩,⟨"V",53,3,false, "", "",24⟩]):=by kernel_rfl
theorem c55:Tryz.prog.cellsOf 55=7:=by kernel_rfl
theorem zOr:Cod Tryz.prog 55 7 qCr (Pt.ok) where
 cells:=c55
 opn:=by
  intro H enc w base sp hd n cs d p hl h hw
  obtain⟨xs,k,_,hx,_,hxl,hf⟩:=DataW.trod_struct u55 h
  simp only[pI] at hx
  obtain⟨rfl,rfl⟩:=hx
  have hW:∀ x∈DataW.weightsEach Tryz.prog [3,3,3,53] (xs.map (·.1)),x≤reachBytes:=fun x hx=>hw x (by simp only[DataW.weights,u55]; exact hx)
  have hxl:xs.length=4:=hxl
  obtain⟨x0,o0,r0⟩:=wA.field (off:=0) (hf 0 _ rfl) (by omega) hW rfl (by omega)
  obtain⟨x1,o1,r1⟩:=wA.field (off:=1) (hf 1 _ rfl) (by omega) hW rfl (by omega)
  obtain⟨x2,o2,r2⟩:=wA.field (off:=2) (hf 2 _ rfl) (by omega) hW rfl (by omega)
  obtain⟨x3,o3,r3⟩:=zFb.field (off:=3) (hf 3 _ rfl) (by omega) hW rfl (by omega)
  refine⟨⟨x0,x1,x2,x3⟩,⟨o0,o1,o2,o3⟩,fun j hj=>?_⟩
  match j,hj with
  | 0,_=>exact r0 0 (by omega)
  | 1,_=>exact r1 0 (by omega)
  | 2,_=>exact r2 0 (by omega)
  | 3,_=>exact r3 0 (by omega)
  | 4,_=>exact r3 1 (by omega)
  | 5,_=>exact r3 2 (by omega)
  | 6,_=>exact r3 3 (by omega)
theorem zYo:Tryz.prog.bytesOf 55=56:=by kernel_rfl
theorem u48:Tryz.prog.underlying 48=some (.slice 55):=by kernel_rfl
theorem c48:Tryz.prog.cellsOf 48=1:=by kernel_rfl
theorem zFi:Cod Tryz.prog 48 1 (fun(l:List (Pt)) _=>.s false 7 l.length (cPt l)) (fun l=>(∀ x∈l,x.ok)∧l.length*56≤140737488351232):=(Cod.slice zOr u48 c48 dPt).mono fun l h=>by
 obtain⟨h1,h2⟩:=h
 rw[zYo,reachBytes] at h2
 exact⟨h1,h2⟩
theorem u50:Tryz.prog.underlying 50=some (.struct #[⟨"Rows",3,0,false, "", "",0⟩,⟨"Puts",48,1,false, "", "",8⟩]):=by kernel_rfl
theorem c50:Tryz.prog.cellsOf 50=2:=by kernel_rfl
theorem zMp:Cod Tryz.prog 50 2 qWz (fun x=>i64 x.1∧zOd x.2) where
 cells:=c50
 opn:=by
  intro H enc w base sp hd n cs d p hl h hw
  obtain⟨xs,k,_,hx,_,hxl,hf⟩:=DataW.trod_struct u50 h
  simp only[pI] at hx
  obtain⟨rfl,rfl⟩:=hx
  have hW:∀ x∈DataW.weightsEach Tryz.prog [3,48] (xs.map (·.1)),x≤reachBytes:=fun x hx=>hw x (by simp only[DataW.weights,u50]; exact hx)
  have hxl:xs.length=2:=hxl
  obtain⟨x0,o0,r0⟩:=wA.field (off:=0) (hf 0 _ rfl) (by omega) hW rfl (by omega)
  obtain⟨x1,o1,r1⟩:=zFi.field (off:=1) (hf 1 _ rfl) (by omega) hW rfl (by omega)
  refine⟨(x0,x1),⟨o0,o1⟩,fun j hj=>?_⟩
  match j,hj with
  | 0,_=>exact r0 0 (by omega)
  | 1,_=>exact r1 0 (by omega)
theorem zUj:Tryz.prog.bytesOf 50=32:=by kernel_rfl
theorem u28:Tryz.prog.underlying 28=some (.slice 50):=by kernel_rfl
theorem c28:Tryz.prog.cellsOf 28=1:=by kernel_rfl
theorem zHn:Cod Tryz.prog 28 1 (fun(l:List (Int×List Pt)) _=>.s false 2 l.length (cRg l)) (fun l=>(∀ x∈l,i64 x.1∧zOd x.2)∧l.length*32≤140737488351232):=(Cod.slice zMp u28 c28 (0,[])).mono fun l h=>by
 obtain⟨h1,h2⟩:=h
 rw[zUj,reachBytes] at h2
 exact⟨h1,h2⟩
theorem u78:Tryz.prog.underlying 78=some (.struct #[⟨"Col",3,0,false, "", "",0⟩,⟨"Values",67,1,false, "", "",8⟩]):=by kernel_rfl
theorem c78:Tryz.prog.cellsOf 78=2:=by kernel_rfl
theorem zLq:Cod Tryz.prog 78 2 qXg (fun x=>i64 x.1∧(∀ v∈x.2,v<top)∧x.2.length*32≤140737488351232) where
 cells:=c78
 opn:=by
  intro H enc w base sp hd n cs d p hl h hw
  obtain⟨xs,k,_,hx,_,hxl,hf⟩:=DataW.trod_struct u78 h
  simp only[pI] at hx
  obtain⟨rfl,rfl⟩:=hx
  have hW:∀ x∈DataW.weightsEach Tryz.prog [3,67] (xs.map (·.1)),x≤reachBytes:=fun x hx=>hw x (by simp only[DataW.weights,u78]; exact hx)
  have hxl:xs.length=2:=hxl
  obtain⟨x0,o0,r0⟩:=wA.field (off:=0) (hf 0 _ rfl) (by omega) hW rfl (by omega)
  obtain⟨x1,o1,r1⟩:=zDk.field (off:=1) (hf 1 _ rfl) (by omega) hW rfl (by omega)
  refine⟨(x0,x1),⟨o0,o1⟩,fun j hj=>?_⟩
  match j,hj with
  | 0,_=>exact r0 0 (by omega)
  | 1,_=>exact r1 0 (by omega)
theorem zXz:Tryz.prog.bytesOf 78=32:=by kernel_rfl
theorem u29:Tryz.prog.underlying 29=some (.slice 78):=by kernel_rfl
theorem c29:Tryz.prog.cellsOf 29=1:=by kernel_rfl
theorem zGx:Cod Tryz.prog 29 1 (fun(l:List (Int×List Nat)) _=>.s false 2 l.length (cTa l)) (fun l=>(∀ x∈l,i64 x.1∧(∀ v∈x.2,v<top)∧x.2.length*32≤140737488351232)∧l.length*32≤140737488351232):=(Cod.slice zLq u29 c29 (0,[])).mono fun l h=>by
 obtain⟨h1,h2⟩:=h
 rw[zXz,reachBytes] at h2
 exact⟨h1,h2⟩
theorem u88:Tryz.prog.underlying 88=some (.struct #[⟨"Region",3,0,false, "", "",0⟩,⟨"Col",3,1,false, "", "",8⟩,⟨"Off",3,2,false, "", "",16⟩]):=by kernel_rfl
theorem c88:Tryz.prog.cellsOf 88=3:=by kernel_rfl
theorem zEn:Cod Tryz.prog 88 3 zNd (fun x=>i64 x.1∧i64 x.2.1∧i64 x.2.2) where
 cells:=c88
 opn:=by
  intro H enc w base sp hd n cs d p hl h hw
  obtain⟨xs,k,_,hx,_,hxl,hf⟩:=DataW.trod_struct u88 h
  simp only[pI] at hx
  obtain⟨rfl,rfl⟩:=hx
  have hW:∀ x∈DataW.weightsEach Tryz.prog [3,3,3] (xs.map (·.1)),x≤reachBytes:=fun x hx=>hw x (by simp only[DataW.weights,u88]; exact hx)
  have hxl:xs.length=3:=hxl
  obtain⟨x0,o0,r0⟩:=wA.field (off:=0) (hf 0 _ rfl) (by omega) hW rfl (by omega)
  obtain⟨x1,o1,r1⟩:=wA.field (off:=1) (hf 1 _ rfl) (by omega) hW rfl (by omega)
  obtain⟨x2,o2,r2⟩:=wA.field (off:=2) (hf 2 _ rfl) (by omega) hW rfl (by omega)
  refine⟨(x0,x1,x2),⟨o0,o1,o2⟩,fun j hj=>?_⟩
  match j,hj with
  | 0,_=>exact r0 0 (by omega)
  | 1,_=>exact r1 0 (by omega)
  | 2,_=>exact r2 0 (by omega)
theorem u90:Tryz.prog.underlying 90=some (.struct #[⟨"A",88,0,false, "", "",0⟩,⟨"B",88,3,false, "", "",24⟩]):=by kernel_rfl
theorem c90:Tryz.prog.cellsOf 90=6:=by kernel_rfl
theorem zLc:Cod Tryz.prog 90 6 zDn (fun x=>(i64 x.1.1∧i64 x.1.2.1∧i64 x.1.2.2)∧i64 x.2.1∧i64 x.2.2.1∧i64 x.2.2.2) where
 cells:=c90
 opn:=by
  intro H enc w base sp hd n cs d p hl h hw
  obtain⟨xs,k,_,hx,_,hxl,hf⟩:=DataW.trod_struct u90 h
  simp only[pI] at hx
  obtain⟨rfl,rfl⟩:=hx
  have hW:∀ x∈DataW.weightsEach Tryz.prog [88,88] (xs.map (·.1)),x≤reachBytes:=fun x hx=>hw x (by simp only[DataW.weights,u90]; exact hx)
  have hxl:xs.length=2:=hxl
  obtain⟨x0,o0,r0⟩:=zEn.field (off:=0) (hf 0 _ rfl) (by omega) hW rfl (by omega)
  obtain⟨x1,o1,r1⟩:=zEn.field (off:=3) (hf 1 _ rfl) (by omega) hW rfl (by omega)
  refine⟨(x0,x1),⟨o0,o1⟩,fun j hj=>?_⟩
  match j,hj with
  | 0,_=>exact r0 0 (by omega)
  | 1,_=>exact r0 1 (by omega)
  | 2,_=>exact r0 2 (by omega)
  | 3,_=>exact r1 0 (by omega)
  | 4,_=>exact r1 1 (by omega)
  | 5,_=>exact r1 2 (by omega)
theorem zYy:Tryz.prog.bytesOf 90=48:=by kernel_rfl
theorem u30:Tryz.prog.underlying 30=some (.slice 90):=by kernel_rfl
theorem c30:Tryz.prog.cellsOf 30=1:=by kernel_rfl
theorem zFr:Cod Tryz.prog 30 1 (fun(l:List ((Int×Int×Int)×(Int×Int×Int))) _=>.s false 6 l.length (cLk l)) (fun l=>(∀ x∈l,(i64 x.1.1∧i64 x.1.2.1∧i64 x.1.2.2)∧i64 x.2.1∧i64 x.2.2.1∧i64 x.2.2.2)∧l.length*48≤140737488351232):=(Cod.slice zLc u30 c30 dLk).mono fun l h=>by
 obtain⟨h1,h2⟩:=h
 rw[zYy,reachBytes] at h2
 exact⟨h1,h2⟩
theorem zVt:Tryz.prog.bytesOf 67=24:=by kernel_rfl
theorem u31:Tryz.prog.underlying 31=some (.slice 67):=by kernel_rfl
theorem c31:Tryz.prog.cellsOf 31=1:=by kernel_rfl
theorem zSr:Cod Tryz.prog 31 1 (fun(l:List (List Nat)) _=>.s false 1 l.length (cT l)) okT:=(Cod.slice zDk u31 c31 []).mono fun l h=>by
 obtain⟨h1,h2⟩:=h
 rw[zVt,reachBytes] at h2
 exact⟨h1,h2⟩
theorem u33:Tryz.prog.underlying 33=some (.struct #[⟨"Regions",28,0,false, "", "",0⟩,⟨"Tables",29,1,false, "", "",24⟩,⟨"Links",30,2,false, "", "",48⟩,⟨"Instance",31,3,false, "", "",72⟩]):=by kernel_rfl
theorem c33:Tryz.prog.cellsOf 33=4:=by kernel_rfl
theorem zQj:Cod Tryz.prog 33 4 zGq (Pln.ok) where
 cells:=c33
 opn:=by
  intro H enc w base sp hd n cs d p hl h hw
  obtain⟨xs,k,_,hx,_,hxl,hf⟩:=DataW.trod_struct u33 h
  simp only[pI] at hx
  obtain⟨rfl,rfl⟩:=hx
  have hW:∀ x∈DataW.weightsEach Tryz.prog [28,29,30,31] (xs.map (·.1)),x≤reachBytes:=fun x hx=>hw x (by simp only[DataW.weights,u33]; exact hx)
  have hxl:xs.length=4:=hxl
  obtain⟨x0,o0,r0⟩:=zHn.field (off:=0) (hf 0 _ rfl) (by omega) hW rfl (by omega)
  obtain⟨x1,o1,r1⟩:=zGx.field (off:=1) (hf 1 _ rfl) (by omega) hW rfl (by omega)
  obtain⟨x2,o2,r2⟩:=zFr.field (off:=2) (hf 2 _ rfl) (by omega) hW rfl (by omega)
  obtain⟨x3,o3,r3⟩:=zSr.field (off:=3) (hf 3 _ rfl) (by omega) hW rfl (by omega)
  refine⟨⟨x0,x1,x2,x3⟩,⟨o0,o1,o2,o3⟩,fun j hj=>?_⟩
  match j,hj with
  | 0,_=>exact r0 0 (by omega)
  | 1,_=>exact r1 0 (by omega)
  | 2,_=>exact r2 0 (by omega)
  | 3,_=>exact r3 0 (by omega)
end Go.Proofs.YtlmjdcbhpffanaaGreat
