/- The texts Z140 .. Z126 of this proof, one behind the other. -/
import Derived.Test.YtlmjdcbhpffanaaM4
import Derived.Test.YtlmjdcbhpffanaaM3
import Derived.Test.YtlmjdcbhpffanaaM2
import Derived.Test.YtlmjdcbhpffanaaM1
/- RegionValues. -/
namespace Go.Proofs.Ytlmjdcbhpffanaa
open Go.Sx Go.Pl
set_option linter.unusedVariables false
set_option maxRecDepth 100000
theorem vaS(c:Cir)(p:Pln)(k:Int)(K:List It→St→Prop)(R:SV→List HO→Prop):W (xwp Try.prog X qRt [] 60 (qO Try.f5 [] [⟨[0,1,0,1,1,1,1,1,1,1],[12,11,10,8,7,5],[]⟩,⟨[0,1,0,0,1,0,0,1,0,1,1,1,1,1,1,1],[13,12,11,10,8,7,5],[]⟩,⟨[0,1,0,1,1,1,1,1,1,1,1],[15,11,10,7,5],[]⟩,⟨[0,1,0,0,1,0,0,1,0,1,1,1,1,1,1,1,1],[16,15,11,10,7,5],[]⟩,⟨[0,1,0,1,1,1,1,1,1,1,1,1],[18,11,10,7,5],[]⟩,⟨[0,1,0,0,1,0,0,1,0,1,1,1,1,1,1,1,1,1],[19,18,11,10,7,5],[]⟩,⟨[0,1,0,1,1,1,1,1,1,1,1,1,1],[20,11,10,7,5],[]⟩,⟨[0,1,0,0,1,0,0,1,0,1,1,1,1,1,1,1,1,1,1],[21,20,11,10,7,5],[]⟩]) [] [.at []] ⟨qQ 0 [.agg [.v (.int .i64 c.fx),.v (.int .i64 c.ad),.v (.int .i64 c.ins),.x 0 [],.x 1 [],.x 2 [],.x 3 []],.v (.int .i64 k),.agg [.x 4 [],.x 5 [],.x 6 [],.x 7 []]],[.ext false (.s false 7 c.nodes.length (cN c.nodes)),.ext false (.s false 1 c.gates.length (cI c.gates)),.ext false (.s false 2 c.looks.length (cL c.looks)),.ext false (.s false 2 c.eqs.length (cK c.eqs)),.ext false (.s false 2 p.1.length (cRg p.1)),.ext false (.s false 2 p.2.length (cTa p.2)),.ext false (.s false 6 p.3.length (cLk p.3)),.ext false (.s false 1 p.4.length (cT p.4))]⟩ K R)=W (lSh c.1 c.2 c.3 c.4.length c.5.length c.6.length c.7.length p.1.length p.2.length p.3.length p.4.length (cN c.4) (cI c.5) (cL c.6) (cK c.7) (cRg p.1) (cTa p.2) (cLk p.3) (cT p.4) fun(c_1:Cir) (p_1:Pln)=>lBo fun(b:Bool)=>bif b then R (.v (.bool true)) [] else(lC c.1 c.2 c.3 c.4.length c.5.length c.6.length c.7.length (cN c.4) (cI c.5) (cL c.6) (cK c.7) fun(c:Cir)=>(lPn p.1.length p.2.length p.3.length p.4.length (cRg p.1) (cTa p.2) (cLk p.3) (cT p.4) fun(p_2:Pln)=>(qXc c.1 c.2 c.3 k c.4.length c.5.length c.6.length c.7.length p_2.1.length p_2.2.length p_2.3.length p_2.4.length (cN c.4) (cI c.5) (cL c.6) (cK c.7) (cRg p_2.1) (cTa p_2.2) (cLk p_2.3) (cT p_2.4) ((∀ M:Mem,4≤4)∧R (.v (.bool true)) []) ((∀ M:Mem,4≤4)∧R (.v (.bool true)) []) ((∀ M:Mem,4≤4)∧R (.v (.bool true)) []) ((∀ M:Mem,4≤4)∧R (.v (.bool true)) []) ((∀ M:Mem,4≤4)∧R (.v (.bool true)) []) fun(s:Sht) (ss:List Int)=>(∀ M:Mem,0+4≤4)∧(∀ M:Mem,4≤4)∧K [.at [0,1,0,1,1,1,1,1,1,1],.blk 0,.at [1,1,1,1,1,1,1,1]] (St.mk [(12,.v (qA 0)),(11,.v (qA 0)),(10,.p 0 0),(8,.x 1 []),(7,.p 2 0),(5,.p 3 0)] [.cells [.v (qD 0),.v (qD 0),.v (qD 0),.v (qD 0)] 56,.ext false (.s false 1 ss.length (cI ss)),.cells [.x 4 [],.x 5 [],.x 6 [],.x 7 []] 49,.cells [.x 8 [],.x 9 [],.x 10 [],.x 11 []] 33,.ext false (.s false 1 s.1.length (cT s.1)),.ext false (.s false 1 s.2.length (cT s.2)),.ext false (.s false 1 s.3.length (cT s.3)),.ext false (.s false 4 s.4.length (cP s.4)),.ext false (.s false 2 p.1.length (cRg p.1)),.ext false (.s false 2 p.2.length (cTa p.2)),.ext false (.s false 6 p.3.length (cLk p.3)),.ext false (.s false 1 p.4.length (cT p.4))]))∧qXc c.1 c.2 c.3 k c.4.length c.5.length c.6.length c.7.length p_2.1.length p_2.2.length p_2.3.length p_2.4.length (cN c.4) (cI c.5) (cL c.6) (cK c.7) (cRg p_2.1) (cTa p_2.2) (cLk p_2.3) (cT p_2.4) ((∀ M:Mem,4≤4)∧R (.v (.bool true)) []) ((∀ M:Mem,4≤4)∧R (.v (.bool true)) []) ((∀ M:Mem,4≤4)∧R (.v (.bool true)) []) ((∀ M:Mem,4≤4)∧R (.v (.bool true)) []) ((∀ M:Mem,4≤4)∧R (.v (.bool true)) []) fun(s:Sht) (ss:List Int)=>(∀ M:Mem,0+4≤4)∧(∀ M:Mem,4≤4)∧K [.at [0,1,0,1,1,1,1,1,1,1],.blk 0,.at [1,1,1,1,1,1,1,1]] (St.mk [(12,.v (qA 0)),(11,.v (qA 0)),(10,.p 0 0),(8,.x 1 []),(7,.p 2 0),(5,.p 3 0)] [.cells [.v (qD 0),.v (qD 0),.v (qD 0),.v (qD 0)] 56,.ext false (.s false 1 ss.length (cI ss)),.cells [.x 4 [],.x 5 [],.x 6 [],.x 7 []] 49,.cells [.x 8 [],.x 9 [],.x 10 [],.x 11 []] 33,.ext false (.s false 1 s.1.length (cT s.1)),.ext false (.s false 1 s.2.length (cT s.2)),.ext false (.s false 1 s.3.length (cT s.3)),.ext false (.s false 4 s.4.length (cP s.4)),.ext false (.s false 2 p.1.length (cRg p.1)),.ext false (.s false 2 p.2.length (cTa p.2)),.ext false (.s false 6 p.3.length (cLk p.3)),.ext false (.s false 1 p.4.length (cT p.4))]))∧lPn p.1.length p.2.length p.3.length p.4.length (cRg p.1) (cTa p.2) (cLk p.3) (cT p.4) fun(p_2:Pln)=>qXc c.1 c.2 c.3 k c.4.length c.5.length c.6.length c.7.length p_2.1.length p_2.2.length p_2.3.length p_2.4.length (cN c.4) (cI c.5) (cL c.6) (cK c.7) (cRg p_2.1) (cTa p_2.2) (cLk p_2.3) (cT p_2.4) ((∀ M:Mem,4≤4)∧R (.v (.bool true)) []) ((∀ M:Mem,4≤4)∧R (.v (.bool true)) []) ((∀ M:Mem,4≤4)∧R (.v (.bool true)) []) ((∀ M:Mem,4≤4)∧R (.v (.bool true)) []) ((∀ M:Mem,4≤4)∧R (.v (.bool true)) []) fun(s:Sht) (ss:List Int)=>(∀ M:Mem,0+4≤4)∧(∀ M:Mem,4≤4)∧K [.at [0,1,0,1,1,1,1,1,1,1],.blk 0,.at [1,1,1,1,1,1,1,1]] (St.mk [(12,.v (qA 0)),(11,.v (qA 0)),(10,.p 0 0),(8,.x 1 []),(7,.p 2 0),(5,.p 3 0)] [.cells [.v (qD 0),.v (qD 0),.v (qD 0),.v (qD 0)] 56,.ext false (.s false 1 ss.length (cI ss)),.cells [.x 4 [],.x 5 [],.x 6 [],.x 7 []] 49,.cells [.x 8 [],.x 9 [],.x 10 [],.x 11 []] 33,.ext false (.s false 1 s.1.length (cT s.1)),.ext false (.s false 1 s.2.length (cT s.2)),.ext false (.s false 1 s.3.length (cT s.3)),.ext false (.s false 4 s.4.length (cP s.4)),.ext false (.s false 2 p.1.length (cRg p.1)),.ext false (.s false 2 p.2.length (cTa p.2)),.ext false (.s false 6 p.3.length (cLk p.3)),.ext false (.s false 1 p.4.length (cT p.4))]))∧lC c.1 c.2 c.3 c.4.length c.5.length c.6.length c.7.length (cN c.4) (cI c.5) (cL c.6) (cK c.7) fun(c:Cir)=>lPn p.1.length p.2.length p.3.length p.4.length (cRg p.1) (cTa p.2) (cLk p.3) (cT p.4) fun(p_2:Pln)=>qXc c.1 c.2 c.3 k c.4.length c.5.length c.6.length c.7.length p_2.1.length p_2.2.length p_2.3.length p_2.4.length (cN c.4) (cI c.5) (cL c.6) (cK c.7) (cRg p_2.1) (cTa p_2.2) (cLk p_2.3) (cT p_2.4) ((∀ M:Mem,4≤4)∧R (.v (.bool true)) []) ((∀ M:Mem,4≤4)∧R (.v (.bool true)) []) ((∀ M:Mem,4≤4)∧R (.v (.bool true)) []) ((∀ M:Mem,4≤4)∧R (.v (.bool true)) []) ((∀ M:Mem,4≤4)∧R (.v (.bool true)) []) fun(s:Sht) (ss:List Int)=>(∀ M:Mem,0+4≤4)∧(∀ M:Mem,4≤4)∧K [.at [0,1,0,1,1,1,1,1,1,1],.blk 0,.at [1,1,1,1,1,1,1,1]] (St.mk [(12,.v (qA 0)),(11,.v (qA 0)),(10,.p 0 0),(8,.x 1 []),(7,.p 2 0),(5,.p 3 0)] [.cells [.v (qD 0),.v (qD 0),.v (qD 0),.v (qD 0)] 56,.ext false (.s false 1 ss.length (cI ss)),.cells [.x 4 [],.x 5 [],.x 6 [],.x 7 []] 49,.cells [.x 8 [],.x 9 [],.x 10 [],.x 11 []] 33,.ext false (.s false 1 s.1.length (cT s.1)),.ext false (.s false 1 s.2.length (cT s.2)),.ext false (.s false 1 s.3.length (cT s.3)),.ext false (.s false 4 s.4.length (cP s.4)),.ext false (.s false 2 p.1.length (cRg p.1)),.ext false (.s false 2 p.2.length (cTa p.2)),.ext false (.s false 6 p.3.length (cLk p.3)),.ext false (.s false 1 p.4.length (cT p.4))])):=by kernel_rfl
theorem zUp(c:Cir)(p:Pln)(k:Int)(s:Sht)(ss:List Int)(m:Int)(i M:Nat)(K:List It→St→Prop)(R:SV→List HO→Prop):W (xwp Try.prog X qRt [] 60 (qO Try.f5 [] [⟨[0,1,0,1,1,1,1,1,1,1],[12,11,10,8,7,5],[]⟩,⟨[0,1,0,0,1,0,0,1,0,1,1,1,1,1,1,1],[13,12,11,10,8,7,5],[]⟩,⟨[0,1,0,1,1,1,1,1,1,1,1],[15,11,10,7,5],[]⟩,⟨[0,1,0,0,1,0,0,1,0,1,1,1,1,1,1,1,1],[16,15,11,10,7,5],[]⟩,⟨[0,1,0,1,1,1,1,1,1,1,1,1],[18,11,10,7,5],[]⟩,⟨[0,1,0,0,1,0,0,1,0,1,1,1,1,1,1,1,1,1],[19,18,11,10,7,5],[]⟩,⟨[0,1,0,1,1,1,1,1,1,1,1,1,1],[20,11,10,7,5],[]⟩,⟨[0,1,0,0,1,0,0,1,0,1,1,1,1,1,1,1,1,1,1],[21,20,11,10,7,5],[]⟩]) [] (.at [0,0,1,0,1,1,1,1,1,1,1]::.rnd [0,0,1,0,1,1,1,1,1,1,1] M::[.blk 0,.at [1,1,1,1,1,1,1,1]]) (St.mk [(12,.v (qA (i:Int))),(11,.v (qA (m:Int))),(10,.p 0 0),(8,.x 1 []),(7,.p 2 0),(5,.p 3 0)] [.cells [.v (qD 0),.v (qD 0),.v (qD 0),.v (qD 0)] 56,.ext false (.s false 1 ss.length (cI ss)),.cells [.x 4 [],.x 5 [],.x 6 [],.x 7 []] 49,.cells [.x 8 [],.x 9 [],.x 10 [],.x 11 []] 33,.ext false (.s false 1 s.1.length (cT s.1)),.ext false (.s false 1 s.2.length (cT s.2)),.ext false (.s false 1 s.3.length (cT s.3)),.ext false (.s false 4 s.4.length (cP s.4)),.ext false (.s false 2 p.1.length (cRg p.1)),.ext false (.s false 2 p.2.length (cTa p.2)),.ext false (.s false 6 p.3.length (cLk p.3)),.ext false (.s false 1 p.4.length (cT p.4))]) K R)=W (bif decide ((↑i:Int)<(↑p.1.length:Int)) then K [.at [0,1,0,0,1,0,0,1,0,1,1,1,1,1,1,1],.blk 2,.blk 1,.at [1,1,0,0,1,0,1,1,1,1,1,1,1],.rnd [0,0,1,0,1,1,1,1,1,1,1] M,.blk 0,.at [1,1,1,1,1,1,1,1]] (St.mk [(13,.v (qA 0)),(12,.v (qA (↑i:Int))),(11,.v (qA m)),(10,.p 0 0),(8,.x 1 []),(7,.p 2 0),(5,.p 3 0)] [.cells [.v (qD 0),.v (qD 0),.v (qD 0),.v (qD 0)] 56,.ext false (.s false 1 ss.length (cI ss)),.cells [.x 4 [],.x 5 [],.x 6 [],.x 7 []] 49,.cells [.x 8 [],.x 9 [],.x 10 [],.x 11 []] 33,.ext false (.s false 1 s.1.length (cT s.1)),.ext false (.s false 1 s.2.length (cT s.2)),.ext false (.s false 1 s.3.length (cT s.3)),.ext false (.s false 4 s.4.length (cP s.4)),.ext false (.s false 2 p.1.length (cRg p.1)),.ext false (.s false 2 p.2.length (cTa p.2)),.ext false (.s false 6 p.3.length (cLk p.3)),.ext false (.s false 1 p.4.length (cT p.4))]) else K [.at [0,1,0,1,1,1,1,1,1,1,1],.blk 4,.at [1,1,1,1,1,1,1,1,1]] (St.mk [(15,.v (qA 0)),(11,.v (qA m)),(10,.p 0 0),(7,.p 1 0),(5,.p 2 0)] [.cells [.v (qD 0),.v (qD 0),.v (qD 0),.v (qD 0)] 56,.cells [.x 3 [],.x 4 [],.x 5 [],.x 6 []] 49,.cells [.x 7 [],.x 8 [],.x 9 [],.x 10 []] 33,.ext false (.s false 1 s.1.length (cT s.1)),.ext false (.s false 1 s.2.length (cT s.2)),.ext false (.s false 1 s.3.length (cT s.3)),.ext false (.s false 4 s.4.length (cP s.4)),.ext false (.s false 2 p.1.length (cRg p.1)),.ext false (.s false 2 p.2.length (cTa p.2)),.ext false (.s false 6 p.3.length (cLk p.3)),.ext false (.s false 1 p.4.length (cT p.4))])):=by kernel_rfl
theorem zTm(c:Cir)(p:Pln)(k:Int)(s:Sht)(ss:List Int)(m:Int)(i M:Nat)(K:List It→St→Prop)(R:SV→List HO→Prop):W (xwp Try.prog X qRt [] 60 (qO Try.f5 [] [⟨[0,1,0,1,1,1,1,1,1,1],[12,11,10,8,7,5],[]⟩,⟨[0,1,0,0,1,0,0,1,0,1,1,1,1,1,1,1],[13,12,11,10,8,7,5],[]⟩,⟨[0,1,0,1,1,1,1,1,1,1,1],[15,11,10,7,5],[]⟩,⟨[0,1,0,0,1,0,0,1,0,1,1,1,1,1,1,1,1],[16,15,11,10,7,5],[]⟩,⟨[0,1,0,1,1,1,1,1,1,1,1,1],[18,11,10,7,5],[]⟩,⟨[0,1,0,0,1,0,0,1,0,1,1,1,1,1,1,1,1,1],[19,18,11,10,7,5],[]⟩,⟨[0,1,0,1,1,1,1,1,1,1,1,1,1],[20,11,10,7,5],[]⟩,⟨[0,1,0,0,1,0,0,1,0,1,1,1,1,1,1,1,1,1,1],[21,20,11,10,7,5],[]⟩]) [] (.at [0,0,1,0,1,1,1,1,1,1,1,1]::.rnd [0,0,1,0,1,1,1,1,1,1,1,1] M::[.blk 4,.at [1,1,1,1,1,1,1,1,1]]) (St.mk [(15,.v (qA (i:Int))),(11,.v (qA m)),(10,.p 0 0),(7,.p 1 0),(5,.p 2 0)] [.cells [.v (qD 0),.v (qD 0),.v (qD 0),.v (qD 0)] 56,.cells [.x 3 [],.x 4 [],.x 5 [],.x 6 []] 49,.cells [.x 7 [],.x 8 [],.x 9 [],.x 10 []] 33,.ext false (.s false 1 s.1.length (cT s.1)),.ext false (.s false 1 s.2.length (cT s.2)),.ext false (.s false 1 s.3.length (cT s.3)),.ext false (.s false 4 s.4.length (cP s.4)),.ext false (.s false 2 p.1.length (cRg p.1)),.ext false (.s false 2 p.2.length (cTa p.2)),.ext false (.s false 6 p.3.length (cLk p.3)),.ext false (.s false 1 p.4.length (cT p.4))]) K R)=W (bif decide ((↑i:Int)<(↑p.2.length:Int)) then K [.at [0,1,0,0,1,0,0,1,0,1,1,1,1,1,1,1,1],.blk 6,.blk 5,.at [1,1,0,0,1,0,1,1,1,1,1,1,1,1],.rnd [0,0,1,0,1,1,1,1,1,1,1,1] M,.blk 4,.at [1,1,1,1,1,1,1,1,1]] (St.mk [(16,.v (qA 0)),(15,.v (qA (↑i:Int))),(11,.v (qA m)),(10,.p 0 0),(7,.p 1 0),(5,.p 2 0)] [.cells [.v (qD 0),.v (qD 0),.v (qD 0),.v (qD 0)] 56,.cells [.x 3 [],.x 4 [],.x 5 [],.x 6 []] 49,.cells [.x 7 [],.x 8 [],.x 9 [],.x 10 []] 33,.ext false (.s false 1 s.1.length (cT s.1)),.ext false (.s false 1 s.2.length (cT s.2)),.ext false (.s false 1 s.3.length (cT s.3)),.ext false (.s false 4 s.4.length (cP s.4)),.ext false (.s false 2 p.1.length (cRg p.1)),.ext false (.s false 2 p.2.length (cTa p.2)),.ext false (.s false 6 p.3.length (cLk p.3)),.ext false (.s false 1 p.4.length (cT p.4))]) else K [.at [0,1,0,1,1,1,1,1,1,1,1,1],.blk 8,.at [1,1,1,1,1,1,1,1,1,1]] (St.mk [(18,.v (qA 0)),(11,.v (qA m)),(10,.p 0 0),(7,.p 1 0),(5,.p 2 0)] [.cells [.v (qD 0),.v (qD 0),.v (qD 0),.v (qD 0)] 56,.cells [.x 3 [],.x 4 [],.x 5 [],.x 6 []] 49,.cells [.x 7 [],.x 8 [],.x 9 [],.x 10 []] 33,.ext false (.s false 1 s.1.length (cT s.1)),.ext false (.s false 1 s.2.length (cT s.2)),.ext false (.s false 1 s.3.length (cT s.3)),.ext false (.s false 4 s.4.length (cP s.4)),.ext false (.s false 2 p.1.length (cRg p.1)),.ext false (.s false 2 p.2.length (cTa p.2)),.ext false (.s false 6 p.3.length (cLk p.3)),.ext false (.s false 1 p.4.length (cT p.4))])):=by kernel_rfl
theorem zVy(c:Cir)(p:Pln)(k:Int)(s:Sht)(ss:List Int)(m:Int)(i M:Nat)(K:List It→St→Prop)(R:SV→List HO→Prop):W (xwp Try.prog X qRt [] 60 (qO Try.f5 [] [⟨[0,1,0,1,1,1,1,1,1,1],[12,11,10,8,7,5],[]⟩,⟨[0,1,0,0,1,0,0,1,0,1,1,1,1,1,1,1],[13,12,11,10,8,7,5],[]⟩,⟨[0,1,0,1,1,1,1,1,1,1,1],[15,11,10,7,5],[]⟩,⟨[0,1,0,0,1,0,0,1,0,1,1,1,1,1,1,1,1],[16,15,11,10,7,5],[]⟩,⟨[0,1,0,1,1,1,1,1,1,1,1,1],[18,11,10,7,5],[]⟩,⟨[0,1,0,0,1,0,0,1,0,1,1,1,1,1,1,1,1,1],[19,18,11,10,7,5],[]⟩,⟨[0,1,0,1,1,1,1,1,1,1,1,1,1],[20,11,10,7,5],[]⟩,⟨[0,1,0,0,1,0,0,1,0,1,1,1,1,1,1,1,1,1,1],[21,20,11,10,7,5],[]⟩]) [] (.at [0,0,1,0,1,1,1,1,1,1,1,1,1]::.rnd [0,0,1,0,1,1,1,1,1,1,1,1,1] M::[.blk 8,.at [1,1,1,1,1,1,1,1,1,1]]) (St.mk [(18,.v (qA (i:Int))),(11,.v (qA m)),(10,.p 0 0),(7,.p 1 0),(5,.p 2 0)] [.cells [.v (qD 0),.v (qD 0),.v (qD 0),.v (qD 0)] 56,.cells [.x 3 [],.x 4 [],.x 5 [],.x 6 []] 49,.cells [.x 7 [],.x 8 [],.x 9 [],.x 10 []] 33,.ext false (.s false 1 s.1.length (cT s.1)),.ext false (.s false 1 s.2.length (cT s.2)),.ext false (.s false 1 s.3.length (cT s.3)),.ext false (.s false 4 s.4.length (cP s.4)),.ext false (.s false 2 p.1.length (cRg p.1)),.ext false (.s false 2 p.2.length (cTa p.2)),.ext false (.s false 6 p.3.length (cLk p.3)),.ext false (.s false 1 p.4.length (cT p.4))]) K R)=W (bif decide ((↑i:Int)<(↑s.1.length:Int)) then K [.at [0,1,0,0,1,0,0,1,0,1,1,1,1,1,1,1,1,1],.blk 10,.blk 9,.at [1,1,0,0,1,0,1,1,1,1,1,1,1,1,1],.rnd [0,0,1,0,1,1,1,1,1,1,1,1,1] M,.blk 8,.at [1,1,1,1,1,1,1,1,1,1]] (St.mk [(19,.v (qA 0)),(18,.v (qA (↑i:Int))),(11,.v (qA m)),(10,.p 0 0),(7,.p 1 0),(5,.p 2 0)] [.cells [.v (qD 0),.v (qD 0),.v (qD 0),.v (qD 0)] 56,.cells [.x 3 [],.x 4 [],.x 5 [],.x 6 []] 49,.cells [.x 7 [],.x 8 [],.x 9 [],.x 10 []] 33,.ext false (.s false 1 s.1.length (cT s.1)),.ext false (.s false 1 s.2.length (cT s.2)),.ext false (.s false 1 s.3.length (cT s.3)),.ext false (.s false 4 s.4.length (cP s.4)),.ext false (.s false 2 p.1.length (cRg p.1)),.ext false (.s false 2 p.2.length (cTa p.2)),.ext false (.s false 6 p.3.length (cLk p.3)),.ext false (.s false 1 p.4.length (cT p.4))]) else K [.at [0,1,0,1,1,1,1,1,1,1,1,1,1],.blk 12,.at [1,1,1,1,1,1,1,1,1,1,1]] (St.mk [(20,.v (qA 0)),(11,.v (qA m)),(10,.p 0 0),(7,.p 1 0),(5,.p 2 0)] [.cells [.v (qD 0),.v (qD 0),.v (qD 0),.v (qD 0)] 56,.cells [.x 3 [],.x 4 [],.x 5 [],.x 6 []] 49,.cells [.x 7 [],.x 8 [],.x 9 [],.x 10 []] 33,.ext false (.s false 1 s.1.length (cT s.1)),.ext false (.s false 1 s.2.length (cT s.2)),.ext false (.s false 1 s.3.length (cT s.3)),.ext false (.s false 4 s.4.length (cP s.4)),.ext false (.s false 2 p.1.length (cRg p.1)),.ext false (.s false 2 p.2.length (cTa p.2)),.ext false (.s false 6 p.3.length (cLk p.3)),.ext false (.s false 1 p.4.length (cT p.4))])):=by kernel_rfl
theorem zVk(c:Cir)(p:Pln)(k:Int)(s:Sht)(ss:List Int)(m:Int)(i M:Nat)(K:List It→St→Prop)(R:SV→List HO→Prop):W (xwp Try.prog X qRt [] 60 (qO Try.f5 [] [⟨[0,1,0,1,1,1,1,1,1,1],[12,11,10,8,7,5],[]⟩,⟨[0,1,0,0,1,0,0,1,0,1,1,1,1,1,1,1],[13,12,11,10,8,7,5],[]⟩,⟨[0,1,0,1,1,1,1,1,1,1,1],[15,11,10,7,5],[]⟩,⟨[0,1,0,0,1,0,0,1,0,1,1,1,1,1,1,1,1],[16,15,11,10,7,5],[]⟩,⟨[0,1,0,1,1,1,1,1,1,1,1,1],[18,11,10,7,5],[]⟩,⟨[0,1,0,0,1,0,0,1,0,1,1,1,1,1,1,1,1,1],[19,18,11,10,7,5],[]⟩,⟨[0,1,0,1,1,1,1,1,1,1,1,1,1],[20,11,10,7,5],[]⟩,⟨[0,1,0,0,1,0,0,1,0,1,1,1,1,1,1,1,1,1,1],[21,20,11,10,7,5],[]⟩]) [] (.at [0,0,1,0,1,1,1,1,1,1,1,1,1,1]::.rnd [0,0,1,0,1,1,1,1,1,1,1,1,1,1] M::[.blk 12,.at [1,1,1,1,1,1,1,1,1,1,1]]) (St.mk [(20,.v (qA (i:Int))),(11,.v (qA m)),(10,.p 0 0),(7,.p 1 0),(5,.p 2 0)] [.cells [.v (qD 0),.v (qD 0),.v (qD 0),.v (qD 0)] 56,.cells [.x 3 [],.x 4 [],.x 5 [],.x 6 []] 49,.cells [.x 7 [],.x 8 [],.x 9 [],.x 10 []] 33,.ext false (.s false 1 s.1.length (cT s.1)),.ext false (.s false 1 s.2.length (cT s.2)),.ext false (.s false 1 s.3.length (cT s.3)),.ext false (.s false 4 s.4.length (cP s.4)),.ext false (.s false 2 p.1.length (cRg p.1)),.ext false (.s false 2 p.2.length (cTa p.2)),.ext false (.s false 6 p.3.length (cLk p.3)),.ext false (.s false 1 p.4.length (cT p.4))]) K R)=W (bif decide ((↑i:Int)<(↑s.2.length:Int)) then K [.at [0,1,0,0,1,0,0,1,0,1,1,1,1,1,1,1,1,1,1],.blk 14,.blk 13,.at [1,1,0,0,1,0,1,1,1,1,1,1,1,1,1,1],.rnd [0,0,1,0,1,1,1,1,1,1,1,1,1,1] M,.blk 12,.at [1,1,1,1,1,1,1,1,1,1,1]] (St.mk [(21,.v (qA 0)),(20,.v (qA (↑i:Int))),(11,.v (qA m)),(10,.p 0 0),(7,.p 1 0),(5,.p 2 0)] [.cells [.v (qD 0),.v (qD 0),.v (qD 0),.v (qD 0)] 56,.cells [.x 3 [],.x 4 [],.x 5 [],.x 6 []] 49,.cells [.x 7 [],.x 8 [],.x 9 [],.x 10 []] 33,.ext false (.s false 1 s.1.length (cT s.1)),.ext false (.s false 1 s.2.length (cT s.2)),.ext false (.s false 1 s.3.length (cT s.3)),.ext false (.s false 4 s.4.length (cP s.4)),.ext false (.s false 2 p.1.length (cRg p.1)),.ext false (.s false 2 p.2.length (cTa p.2)),.ext false (.s false 6 p.3.length (cLk p.3)),.ext false (.s false 1 p.4.length (cT p.4))]) else bif m==(0:Int) then lT s.3.length (cT s.3) fun(l:List (List Nat))=>lT p.4.length (cT p.4) fun(l2:List (List Nat))=>l2=l∧R (.v (.bool ((↑s.4.length:Int)==(↑p.3.length:Int)))) [] else R (.v (.bool false)) []):=by kernel_rfl
theorem zWe(c:Cir)(p:Pln)(k:Int)(s:Sht)(ss:List Int)(m:Int)(i j M M2:Nat)(K:List It→St→Prop)(R:SV→List HO→Prop):W (xwp Try.prog X qRt [] 60 (qO Try.f5 [] [⟨[0,1,0,1,1,1,1,1,1,1],[12,11,10,8,7,5],[]⟩,⟨[0,1,0,0,1,0,0,1,0,1,1,1,1,1,1,1],[13,12,11,10,8,7,5],[]⟩,⟨[0,1,0,1,1,1,1,1,1,1,1],[15,11,10,7,5],[]⟩,⟨[0,1,0,0,1,0,0,1,0,1,1,1,1,1,1,1,1],[16,15,11,10,7,5],[]⟩,⟨[0,1,0,1,1,1,1,1,1,1,1,1],[18,11,10,7,5],[]⟩,⟨[0,1,0,0,1,0,0,1,0,1,1,1,1,1,1,1,1,1],[19,18,11,10,7,5],[]⟩,⟨[0,1,0,1,1,1,1,1,1,1,1,1,1],[20,11,10,7,5],[]⟩,⟨[0,1,0,0,1,0,0,1,0,1,1,1,1,1,1,1,1,1,1],[21,20,11,10,7,5],[]⟩]) [] (.at [0,0,1,0,0,1,0,0,1,0,1,1,1,1,1,1,1]::.rnd [0,0,1,0,0,1,0,0,1,0,1,1,1,1,1,1,1] M::[.blk 2,.blk 1,.at [1,1,0,0,1,0,1,1,1,1,1,1,1],.rnd [0,0,1,0,1,1,1,1,1,1,1] M2,.blk 0,.at [1,1,1,1,1,1,1,1]]) (St.mk [(13,.v (qA (j:Int))),(12,.v (qA (↑i:Int))),(11,.v (qA m)),(10,.p 0 0),(8,.x 1 []),(7,.p 2 0),(5,.p 3 0)] [.cells [.v (qD 0),.v (qD 0),.v (qD 0),.v (qD 0)] 56,.ext false (.s false 1 ss.length (cI ss)),.cells [.x 4 [],.x 5 [],.x 6 [],.x 7 []] 49,.cells [.x 8 [],.x 9 [],.x 10 [],.x 11 []] 33,.ext false (.s false 1 s.1.length (cT s.1)),.ext false (.s false 1 s.2.length (cT s.2)),.ext false (.s false 1 s.3.length (cT s.3)),.ext false (.s false 4 s.4.length (cP s.4)),.ext false (.s false 2 p.1.length (cRg p.1)),.ext false (.s false 2 p.2.length (cTa p.2)),.ext false (.s false 6 p.3.length (cLk p.3)),.ext false (.s false 1 p.4.length (cT p.4))]) K R)=W ((∀ M:Mem,(0:Int)≤(↑i:Int)∧(↑i:Int)<(↑p.1.length:Int))∧(∀ M:Mem,i<List.length p.1)∧(∀ M:Mem,i<List.length p.1)∧(∀ M:Mem,i<List.length p.1)∧bif decide ((↑j:Int)<(↑(List.length (gRg p.1 i).2):Int)) then(∀ M:Mem,(0:Int)≤(↑i:Int)∧(↑i:Int)<(↑p.1.length:Int))∧(∀ M:Mem,i<List.length p.1)∧(∀ M:Mem,i<List.length p.1)∧(∀ M:Mem,i<List.length p.1)∧(∀ M:Mem,(0:Int)≤(↑j:Int)∧(↑j:Int)<(↑(List.length (gRg p.1 i).2):Int))∧(∀ M:Mem,i<List.length p.1)∧(∀ M:Mem,j<List.length (gRg p.1 i).2)∧(∀ M:Mem,0+7≤7)∧(∀ M:Mem,(0:Int)≤(↑i:Int)∧(↑i:Int)<(↑ss.length:Int))∧(∀ M:Mem,i<List.length ss)∧lS s.1.length s.2.length s.3.length s.4.length (cT s.1) (cT s.2) (cT s.3) (cP s.4) fun(s_1:Sht)=>bif !decide ((eI (atS s_1 (gPt (gRg p.1 i).2 j).1 (gPt (gRg p.1 i).2 j).2 (IntKind.wrap .i64 (gI ss i+(gPt (gRg p.1 i).2 j).3))))=(eI (gPt (gRg p.1 i).2 j).4)) then R (.v (.bool false)) [] else bif !decide ((eI (gPt (gRg p.1 i).2 j).4)=[(0:Int),(0:Int),(0:Int),(0:Int)]) then K [.rnd [0,0,1,0,0,1,0,0,1,0,1,1,1,1,1,1,1] M,.blk 2,.blk 1,.at [1,1,0,0,1,0,1,1,1,1,1,1,1],.rnd [0,0,1,0,1,1,1,1,1,1,1] M2,.blk 0,.at [1,1,1,1,1,1,1,1]] (St.mk [(13,.v (qA (IntKind.wrap .i64 ((↑j:Int)+(1:Int))))),(12,.v (qA (↑i:Int))),(11,.v (qA (IntKind.wrap .i64 (m+(1:Int))))),(10,.p 0 0),(8,.x 1 []),(7,.p 2 0),(5,.p 3 0)] [.cells [.v (qD 0),.v (qD 0),.v (qD 0),.v (qD 0)] 56,.ext false (.s false 1 ss.length (cI ss)),.cells [.x 4 [],.x 5 [],.x 6 [],.x 7 []] 49,.cells [.x 8 [],.x 9 [],.x 10 [],.x 11 []] 33,.ext false (.s false 1 s.1.length (cT s.1)),.ext false (.s false 1 s.2.length (cT s.2)),.ext false (.s false 1 s.3.length (cT s.3)),.ext false (.s false 4 s.4.length (cP s.4)),.ext false (.s false 2 p.1.length (cRg p.1)),.ext false (.s false 2 p.2.length (cTa p.2)),.ext false (.s false 6 p.3.length (cLk p.3)),.ext false (.s false 1 p.4.length (cT p.4))]) else K [.rnd [0,0,1,0,0,1,0,0,1,0,1,1,1,1,1,1,1] M,.blk 2,.blk 1,.at [1,1,0,0,1,0,1,1,1,1,1,1,1],.rnd [0,0,1,0,1,1,1,1,1,1,1] M2,.blk 0,.at [1,1,1,1,1,1,1,1]] (St.mk [(13,.v (qA (IntKind.wrap .i64 ((↑j:Int)+(1:Int))))),(12,.v (qA (↑i:Int))),(11,.v (qA m)),(10,.p 0 0),(8,.x 1 []),(7,.p 2 0),(5,.p 3 0)] [.cells [.v (qD 0),.v (qD 0),.v (qD 0),.v (qD 0)] 56,.ext false (.s false 1 ss.length (cI ss)),.cells [.x 4 [],.x 5 [],.x 6 [],.x 7 []] 49,.cells [.x 8 [],.x 9 [],.x 10 [],.x 11 []] 33,.ext false (.s false 1 s.1.length (cT s.1)),.ext false (.s false 1 s.2.length (cT s.2)),.ext false (.s false 1 s.3.length (cT s.3)),.ext false (.s false 4 s.4.length (cP s.4)),.ext false (.s false 2 p.1.length (cRg p.1)),.ext false (.s false 2 p.2.length (cTa p.2)),.ext false (.s false 6 p.3.length (cLk p.3)),.ext false (.s false 1 p.4.length (cT p.4))]) else K [.rnd [0,0,1,0,1,1,1,1,1,1,1] M2,.blk 0,.at [1,1,1,1,1,1,1,1]] (St.mk [(12,.v (qA (IntKind.wrap .i64 ((↑i:Int)+(1:Int))))),(11,.v (qA m)),(10,.p 0 0),(8,.x 1 []),(7,.p 2 0),(5,.p 3 0)] [.cells [.v (qD 0),.v (qD 0),.v (qD 0),.v (qD 0)] 56,.ext false (.s false 1 ss.length (cI ss)),.cells [.x 4 [],.x 5 [],.x 6 [],.x 7 []] 49,.cells [.x 8 [],.x 9 [],.x 10 [],.x 11 []] 33,.ext false (.s false 1 s.1.length (cT s.1)),.ext false (.s false 1 s.2.length (cT s.2)),.ext false (.s false 1 s.3.length (cT s.3)),.ext false (.s false 4 s.4.length (cP s.4)),.ext false (.s false 2 p.1.length (cRg p.1)),.ext false (.s false 2 p.2.length (cTa p.2)),.ext false (.s false 6 p.3.length (cLk p.3)),.ext false (.s false 1 p.4.length (cT p.4))])):=by kernel_rfl
theorem zTj(c:Cir)(p:Pln)(k:Int)(s:Sht)(ss:List Int)(m:Int)(i j M M2:Nat)(K:List It→St→Prop)(R:SV→List HO→Prop):W (xwp Try.prog X qRt [] 60 (qO Try.f5 [] [⟨[0,1,0,1,1,1,1,1,1,1],[12,11,10,8,7,5],[]⟩,⟨[0,1,0,0,1,0,0,1,0,1,1,1,1,1,1,1],[13,12,11,10,8,7,5],[]⟩,⟨[0,1,0,1,1,1,1,1,1,1,1],[15,11,10,7,5],[]⟩,⟨[0,1,0,0,1,0,0,1,0,1,1,1,1,1,1,1,1],[16,15,11,10,7,5],[]⟩,⟨[0,1,0,1,1,1,1,1,1,1,1,1],[18,11,10,7,5],[]⟩,⟨[0,1,0,0,1,0,0,1,0,1,1,1,1,1,1,1,1,1],[19,18,11,10,7,5],[]⟩,⟨[0,1,0,1,1,1,1,1,1,1,1,1,1],[20,11,10,7,5],[]⟩,⟨[0,1,0,0,1,0,0,1,0,1,1,1,1,1,1,1,1,1,1],[21,20,11,10,7,5],[]⟩]) [] (.at [0,0,1,0,0,1,0,0,1,0,1,1,1,1,1,1,1,1]::.rnd [0,0,1,0,0,1,0,0,1,0,1,1,1,1,1,1,1,1] M::[.blk 6,.blk 5,.at [1,1,0,0,1,0,1,1,1,1,1,1,1,1],.rnd [0,0,1,0,1,1,1,1,1,1,1,1] M2,.blk 4,.at [1,1,1,1,1,1,1,1,1]]) (St.mk [(16,.v (qA (j:Int))),(15,.v (qA (↑i:Int))),(11,.v (qA m)),(10,.p 0 0),(7,.p 1 0),(5,.p 2 0)] [.cells [.v (qD 0),.v (qD 0),.v (qD 0),.v (qD 0)] 56,.cells [.x 3 [],.x 4 [],.x 5 [],.x 6 []] 49,.cells [.x 7 [],.x 8 [],.x 9 [],.x 10 []] 33,.ext false (.s false 1 s.1.length (cT s.1)),.ext false (.s false 1 s.2.length (cT s.2)),.ext false (.s false 1 s.3.length (cT s.3)),.ext false (.s false 4 s.4.length (cP s.4)),.ext false (.s false 2 p.1.length (cRg p.1)),.ext false (.s false 2 p.2.length (cTa p.2)),.ext false (.s false 6 p.3.length (cLk p.3)),.ext false (.s false 1 p.4.length (cT p.4))]) K R)=W ((∀ M:Mem,(0:Int)≤(↑i:Int)∧(↑i:Int)<(↑p.2.length:Int))∧(∀ M:Mem,i<List.length p.2)∧(∀ M:Mem,i<List.length p.2)∧(∀ M:Mem,i<List.length p.2)∧bif decide ((↑j:Int)<(↑(List.length (gTa p.2 i).2):Int)) then(∀ M:Mem,(0:Int)≤(↑i:Int)∧(↑i:Int)<(↑p.2.length:Int))∧(∀ M:Mem,i<List.length p.2)∧(∀ M:Mem,i<List.length p.2)∧(∀ M:Mem,i<List.length p.2)∧(∀ M:Mem,(0:Int)≤(↑j:Int)∧(↑j:Int)<(↑(List.length (gTa p.2 i).2):Int))∧(∀ M:Mem,i<List.length p.2)∧(∀ M:Mem,j<List.length (gTa p.2 i).2)∧(∀ M:Mem,0+4≤4)∧(∀ M:Mem,(0:Int)≤(↑i:Int)∧(↑i:Int)<(↑p.2.length:Int))∧(∀ M:Mem,i<List.length p.2)∧(∀ M:Mem,i<List.length p.2)∧lS s.1.length s.2.length s.3.length s.4.length (cT s.1) (cT s.2) (cT s.3) (cP s.4) fun(s_1:Sht)=>bif !decide ((eI (atS s_1 (2:Int) (gTa p.2 i).1 (↑j:Int)))=(eI (gE (gTa p.2 i).2 j))) then R (.v (.bool false)) [] else bif !decide ((eI (gE (gTa p.2 i).2 j))=[(0:Int),(0:Int),(0:Int),(0:Int)]) then K [.rnd [0,0,1,0,0,1,0,0,1,0,1,1,1,1,1,1,1,1] M,.blk 6,.blk 5,.at [1,1,0,0,1,0,1,1,1,1,1,1,1,1],.rnd [0,0,1,0,1,1,1,1,1,1,1,1] M2,.blk 4,.at [1,1,1,1,1,1,1,1,1]] (St.mk [(16,.v (qA (IntKind.wrap .i64 ((↑j:Int)+(1:Int))))),(15,.v (qA (↑i:Int))),(11,.v (qA (IntKind.wrap .i64 (m+(1:Int))))),(10,.p 0 0),(7,.p 1 0),(5,.p 2 0)] [.cells [.v (qD 0),.v (qD 0),.v (qD 0),.v (qD 0)] 56,.cells [.x 3 [],.x 4 [],.x 5 [],.x 6 []] 49,.cells [.x 7 [],.x 8 [],.x 9 [],.x 10 []] 33,.ext false (.s false 1 s.1.length (cT s.1)),.ext false (.s false 1 s.2.length (cT s.2)),.ext false (.s false 1 s.3.length (cT s.3)),.ext false (.s false 4 s.4.length (cP s.4)),.ext false (.s false 2 p.1.length (cRg p.1)),.ext false (.s false 2 p.2.length (cTa p.2)),.ext false (.s false 6 p.3.length (cLk p.3)),.ext false (.s false 1 p.4.length (cT p.4))]) else K [.rnd [0,0,1,0,0,1,0,0,1,0,1,1,1,1,1,1,1,1] M,.blk 6,.blk 5,.at [1,1,0,0,1,0,1,1,1,1,1,1,1,1],.rnd [0,0,1,0,1,1,1,1,1,1,1,1] M2,.blk 4,.at [1,1,1,1,1,1,1,1,1]] (St.mk [(16,.v (qA (IntKind.wrap .i64 ((↑j:Int)+(1:Int))))),(15,.v (qA (↑i:Int))),(11,.v (qA m)),(10,.p 0 0),(7,.p 1 0),(5,.p 2 0)] [.cells [.v (qD 0),.v (qD 0),.v (qD 0),.v (qD 0)] 56,.cells [.x 3 [],.x 4 [],.x 5 [],.x 6 []] 49,.cells [.x 7 [],.x 8 [],.x 9 [],.x 10 []] 33,.ext false (.s false 1 s.1.length (cT s.1)),.ext false (.s false 1 s.2.length (cT s.2)),.ext false (.s false 1 s.3.length (cT s.3)),.ext false (.s false 4 s.4.length (cP s.4)),.ext false (.s false 2 p.1.length (cRg p.1)),.ext false (.s false 2 p.2.length (cTa p.2)),.ext false (.s false 6 p.3.length (cLk p.3)),.ext false (.s false 1 p.4.length (cT p.4))]) else K [.rnd [0,0,1,0,1,1,1,1,1,1,1,1] M2,.blk 4,.at [1,1,1,1,1,1,1,1,1]] (St.mk [(15,.v (qA (IntKind.wrap .i64 ((↑i:Int)+(1:Int))))),(11,.v (qA m)),(10,.p 0 0),(7,.p 1 0),(5,.p 2 0)] [.cells [.v (qD 0),.v (qD 0),.v (qD 0),.v (qD 0)] 56,.cells [.x 3 [],.x 4 [],.x 5 [],.x 6 []] 49,.cells [.x 7 [],.x 8 [],.x 9 [],.x 10 []] 33,.ext false (.s false 1 s.1.length (cT s.1)),.ext false (.s false 1 s.2.length (cT s.2)),.ext false (.s false 1 s.3.length (cT s.3)),.ext false (.s false 4 s.4.length (cP s.4)),.ext false (.s false 2 p.1.length (cRg p.1)),.ext false (.s false 2 p.2.length (cTa p.2)),.ext false (.s false 6 p.3.length (cLk p.3)),.ext false (.s false 1 p.4.length (cT p.4))])):=by kernel_rfl
theorem zTp(c:Cir)(p:Pln)(k:Int)(s:Sht)(ss:List Int)(m:Int)(i j M M2:Nat)(K:List It→St→Prop)(R:SV→List HO→Prop):W (xwp Try.prog X qRt [] 60 (qO Try.f5 [] [⟨[0,1,0,1,1,1,1,1,1,1],[12,11,10,8,7,5],[]⟩,⟨[0,1,0,0,1,0,0,1,0,1,1,1,1,1,1,1],[13,12,11,10,8,7,5],[]⟩,⟨[0,1,0,1,1,1,1,1,1,1,1],[15,11,10,7,5],[]⟩,⟨[0,1,0,0,1,0,0,1,0,1,1,1,1,1,1,1,1],[16,15,11,10,7,5],[]⟩,⟨[0,1,0,1,1,1,1,1,1,1,1,1],[18,11,10,7,5],[]⟩,⟨[0,1,0,0,1,0,0,1,0,1,1,1,1,1,1,1,1,1],[19,18,11,10,7,5],[]⟩,⟨[0,1,0,1,1,1,1,1,1,1,1,1,1],[20,11,10,7,5],[]⟩,⟨[0,1,0,0,1,0,0,1,0,1,1,1,1,1,1,1,1,1,1],[21,20,11,10,7,5],[]⟩]) [] (.at [0,0,1,0,0,1,0,0,1,0,1,1,1,1,1,1,1,1,1]::.rnd [0,0,1,0,0,1,0,0,1,0,1,1,1,1,1,1,1,1,1] M::[.blk 10,.blk 9,.at [1,1,0,0,1,0,1,1,1,1,1,1,1,1,1],.rnd [0,0,1,0,1,1,1,1,1,1,1,1,1] M2,.blk 8,.at [1,1,1,1,1,1,1,1,1,1]]) (St.mk [(19,.v (qA (j:Int))),(18,.v (qA (↑i:Int))),(11,.v (qA m)),(10,.p 0 0),(7,.p 1 0),(5,.p 2 0)] [.cells [.v (qD 0),.v (qD 0),.v (qD 0),.v (qD 0)] 56,.cells [.x 3 [],.x 4 [],.x 5 [],.x 6 []] 49,.cells [.x 7 [],.x 8 [],.x 9 [],.x 10 []] 33,.ext false (.s false 1 s.1.length (cT s.1)),.ext false (.s false 1 s.2.length (cT s.2)),.ext false (.s false 1 s.3.length (cT s.3)),.ext false (.s false 4 s.4.length (cP s.4)),.ext false (.s false 2 p.1.length (cRg p.1)),.ext false (.s false 2 p.2.length (cTa p.2)),.ext false (.s false 6 p.3.length (cLk p.3)),.ext false (.s false 1 p.4.length (cT p.4))]) K R)=W ((∀ M:Mem,(0:Int)≤(↑i:Int)∧(↑i:Int)<(↑s.1.length:Int))∧(∀ M:Mem,i<List.length s.1)∧(∀ M:Mem,i<List.length s.1)∧bif decide ((↑j:Int)<(↑(List.length (gT s.1 i)):Int)) then(∀ M:Mem,(0:Int)≤(↑i:Int)∧(↑i:Int)<(↑s.1.length:Int))∧(∀ M:Mem,i<List.length s.1)∧(∀ M:Mem,i<List.length s.1)∧(∀ M:Mem,(0:Int)≤(↑j:Int)∧(↑j:Int)<(↑(List.length (gT s.1 i)):Int))∧(∀ M:Mem,i<List.length s.1)∧(∀ M:Mem,j<List.length (gT s.1 i))∧bif !decide ((eI (gE (gT s.1 i) j))=[(0:Int),(0:Int),(0:Int),(0:Int)]) then K [.rnd [0,0,1,0,0,1,0,0,1,0,1,1,1,1,1,1,1,1,1] M,.blk 10,.blk 9,.at [1,1,0,0,1,0,1,1,1,1,1,1,1,1,1],.rnd [0,0,1,0,1,1,1,1,1,1,1,1,1] M2,.blk 8,.at [1,1,1,1,1,1,1,1,1,1]] (St.mk [(19,.v (qA (IntKind.wrap .i64 ((↑j:Int)+(1:Int))))),(18,.v (qA (↑i:Int))),(11,.v (qA (IntKind.wrap .i64 (m-(1:Int))))),(10,.p 0 0),(7,.p 1 0),(5,.p 2 0)] [.cells [.v (qD 0),.v (qD 0),.v (qD 0),.v (qD 0)] 56,.cells [.x 3 [],.x 4 [],.x 5 [],.x 6 []] 49,.cells [.x 7 [],.x 8 [],.x 9 [],.x 10 []] 33,.ext false (.s false 1 s.1.length (cT s.1)),.ext false (.s false 1 s.2.length (cT s.2)),.ext false (.s false 1 s.3.length (cT s.3)),.ext false (.s false 4 s.4.length (cP s.4)),.ext false (.s false 2 p.1.length (cRg p.1)),.ext false (.s false 2 p.2.length (cTa p.2)),.ext false (.s false 6 p.3.length (cLk p.3)),.ext false (.s false 1 p.4.length (cT p.4))]) else K [.rnd [0,0,1,0,0,1,0,0,1,0,1,1,1,1,1,1,1,1,1] M,.blk 10,.blk 9,.at [1,1,0,0,1,0,1,1,1,1,1,1,1,1,1],.rnd [0,0,1,0,1,1,1,1,1,1,1,1,1] M2,.blk 8,.at [1,1,1,1,1,1,1,1,1,1]] (St.mk [(19,.v (qA (IntKind.wrap .i64 ((↑j:Int)+(1:Int))))),(18,.v (qA (↑i:Int))),(11,.v (qA m)),(10,.p 0 0),(7,.p 1 0),(5,.p 2 0)] [.cells [.v (qD 0),.v (qD 0),.v (qD 0),.v (qD 0)] 56,.cells [.x 3 [],.x 4 [],.x 5 [],.x 6 []] 49,.cells [.x 7 [],.x 8 [],.x 9 [],.x 10 []] 33,.ext false (.s false 1 s.1.length (cT s.1)),.ext false (.s false 1 s.2.length (cT s.2)),.ext false (.s false 1 s.3.length (cT s.3)),.ext false (.s false 4 s.4.length (cP s.4)),.ext false (.s false 2 p.1.length (cRg p.1)),.ext false (.s false 2 p.2.length (cTa p.2)),.ext false (.s false 6 p.3.length (cLk p.3)),.ext false (.s false 1 p.4.length (cT p.4))]) else K [.rnd [0,0,1,0,1,1,1,1,1,1,1,1,1] M2,.blk 8,.at [1,1,1,1,1,1,1,1,1,1]] (St.mk [(18,.v (qA (IntKind.wrap .i64 ((↑i:Int)+(1:Int))))),(11,.v (qA m)),(10,.p 0 0),(7,.p 1 0),(5,.p 2 0)] [.cells [.v (qD 0),.v (qD 0),.v (qD 0),.v (qD 0)] 56,.cells [.x 3 [],.x 4 [],.x 5 [],.x 6 []] 49,.cells [.x 7 [],.x 8 [],.x 9 [],.x 10 []] 33,.ext false (.s false 1 s.1.length (cT s.1)),.ext false (.s false 1 s.2.length (cT s.2)),.ext false (.s false 1 s.3.length (cT s.3)),.ext false (.s false 4 s.4.length (cP s.4)),.ext false (.s false 2 p.1.length (cRg p.1)),.ext false (.s false 2 p.2.length (cTa p.2)),.ext false (.s false 6 p.3.length (cLk p.3)),.ext false (.s false 1 p.4.length (cT p.4))])):=by kernel_rfl
theorem zWf(c:Cir)(p:Pln)(k:Int)(s:Sht)(ss:List Int)(m:Int)(i j M M2:Nat)(K:List It→St→Prop)(R:SV→List HO→Prop):W (xwp Try.prog X qRt [] 60 (qO Try.f5 [] [⟨[0,1,0,1,1,1,1,1,1,1],[12,11,10,8,7,5],[]⟩,⟨[0,1,0,0,1,0,0,1,0,1,1,1,1,1,1,1],[13,12,11,10,8,7,5],[]⟩,⟨[0,1,0,1,1,1,1,1,1,1,1],[15,11,10,7,5],[]⟩,⟨[0,1,0,0,1,0,0,1,0,1,1,1,1,1,1,1,1],[16,15,11,10,7,5],[]⟩,⟨[0,1,0,1,1,1,1,1,1,1,1,1],[18,11,10,7,5],[]⟩,⟨[0,1,0,0,1,0,0,1,0,1,1,1,1,1,1,1,1,1],[19,18,11,10,7,5],[]⟩,⟨[0,1,0,1,1,1,1,1,1,1,1,1,1],[20,11,10,7,5],[]⟩,⟨[0,1,0,0,1,0,0,1,0,1,1,1,1,1,1,1,1,1,1],[21,20,11,10,7,5],[]⟩]) [] (.at [0,0,1,0,0,1,0,0,1,0,1,1,1,1,1,1,1,1,1,1]::.rnd [0,0,1,0,0,1,0,0,1,0,1,1,1,1,1,1,1,1,1,1] M::[.blk 14,.blk 13,.at [1,1,0,0,1,0,1,1,1,1,1,1,1,1,1,1],.rnd [0,0,1,0,1,1,1,1,1,1,1,1,1,1] M2,.blk 12,.at [1,1,1,1,1,1,1,1,1,1,1]]) (St.mk [(21,.v (qA (j:Int))),(20,.v (qA (↑i:Int))),(11,.v (qA m)),(10,.p 0 0),(7,.p 1 0),(5,.p 2 0)] [.cells [.v (qD 0),.v (qD 0),.v (qD 0),.v (qD 0)] 56,.cells [.x 3 [],.x 4 [],.x 5 [],.x 6 []] 49,.cells [.x 7 [],.x 8 [],.x 9 [],.x 10 []] 33,.ext false (.s false 1 s.1.length (cT s.1)),.ext false (.s false 1 s.2.length (cT s.2)),.ext false (.s false 1 s.3.length (cT s.3)),.ext false (.s false 4 s.4.length (cP s.4)),.ext false (.s false 2 p.1.length (cRg p.1)),.ext false (.s false 2 p.2.length (cTa p.2)),.ext false (.s false 6 p.3.length (cLk p.3)),.ext false (.s false 1 p.4.length (cT p.4))]) K R)=W ((∀ M:Mem,(0:Int)≤(↑i:Int)∧(↑i:Int)<(↑s.2.length:Int))∧(∀ M:Mem,i<List.length s.2)∧(∀ M:Mem,i<List.length s.2)∧bif decide ((↑j:Int)<(↑(List.length (gT s.2 i)):Int)) then(∀ M:Mem,(0:Int)≤(↑i:Int)∧(↑i:Int)<(↑s.2.length:Int))∧(∀ M:Mem,i<List.length s.2)∧(∀ M:Mem,i<List.length s.2)∧(∀ M:Mem,(0:Int)≤(↑j:Int)∧(↑j:Int)<(↑(List.length (gT s.2 i)):Int))∧(∀ M:Mem,i<List.length s.2)∧(∀ M:Mem,j<List.length (gT s.2 i))∧bif !decide ((eI (gE (gT s.2 i) j))=[(0:Int),(0:Int),(0:Int),(0:Int)]) then K [.rnd [0,0,1,0,0,1,0,0,1,0,1,1,1,1,1,1,1,1,1,1] M,.blk 14,.blk 13,.at [1,1,0,0,1,0,1,1,1,1,1,1,1,1,1,1],.rnd [0,0,1,0,1,1,1,1,1,1,1,1,1,1] M2,.blk 12,.at [1,1,1,1,1,1,1,1,1,1,1]] (St.mk [(21,.v (qA (IntKind.wrap .i64 ((↑j:Int)+(1:Int))))),(20,.v (qA (↑i:Int))),(11,.v (qA (IntKind.wrap .i64 (m-(1:Int))))),(10,.p 0 0),(7,.p 1 0),(5,.p 2 0)] [.cells [.v (qD 0),.v (qD 0),.v (qD 0),.v (qD 0)] 56,.cells [.x 3 [],.x 4 [],.x 5 [],.x 6 []] 49,.cells [.x 7 [],.x 8 [],.x 9 [],.x 10 []] 33,.ext false (.s false 1 s.1.length (cT s.1)),.ext false (.s false 1 s.2.length (cT s.2)),.ext false (.s false 1 s.3.length (cT s.3)),.ext false (.s false 4 s.4.length (cP s.4)),.ext false (.s false 2 p.1.length (cRg p.1)),.ext false (.s false 2 p.2.length (cTa p.2)),.ext false (.s false 6 p.3.length (cLk p.3)),.ext false (.s false 1 p.4.length (cT p.4))]) else K [.rnd [0,0,1,0,0,1,0,0,1,0,1,1,1,1,1,1,1,1,1,1] M,.blk 14,.blk 13,.at [1,1,0,0,1,0,1,1,1,1,1,1,1,1,1,1],.rnd [0,0,1,0,1,1,1,1,1,1,1,1,1,1] M2,.blk 12,.at [1,1,1,1,1,1,1,1,1,1,1]] (St.mk [(21,.v (qA (IntKind.wrap .i64 ((↑j:Int)+(1:Int))))),(20,.v (qA (↑i:Int))),(11,.v (qA m)),(10,.p 0 0),(7,.p 1 0),(5,.p 2 0)] [.cells [.v (qD 0),.v (qD 0),.v (qD 0),.v (qD 0)] 56,.cells [.x 3 [],.x 4 [],.x 5 [],.x 6 []] 49,.cells [.x 7 [],.x 8 [],.x 9 [],.x 10 []] 33,.ext false (.s false 1 s.1.length (cT s.1)),.ext false (.s false 1 s.2.length (cT s.2)),.ext false (.s false 1 s.3.length (cT s.3)),.ext false (.s false 4 s.4.length (cP s.4)),.ext false (.s false 2 p.1.length (cRg p.1)),.ext false (.s false 2 p.2.length (cTa p.2)),.ext false (.s false 6 p.3.length (cLk p.3)),.ext false (.s false 1 p.4.length (cT p.4))]) else K [.rnd [0,0,1,0,1,1,1,1,1,1,1,1,1,1] M2,.blk 12,.at [1,1,1,1,1,1,1,1,1,1,1]] (St.mk [(20,.v (qA (IntKind.wrap .i64 ((↑i:Int)+(1:Int))))),(11,.v (qA m)),(10,.p 0 0),(7,.p 1 0),(5,.p 2 0)] [.cells [.v (qD 0),.v (qD 0),.v (qD 0),.v (qD 0)] 56,.cells [.x 3 [],.x 4 [],.x 5 [],.x 6 []] 49,.cells [.x 7 [],.x 8 [],.x 9 [],.x 10 []] 33,.ext false (.s false 1 s.1.length (cT s.1)),.ext false (.s false 1 s.2.length (cT s.2)),.ext false (.s false 1 s.3.length (cT s.3)),.ext false (.s false 4 s.4.length (cP s.4)),.ext false (.s false 2 p.1.length (cRg p.1)),.ext false (.s false 2 p.2.length (cTa p.2)),.ext false (.s false 6 p.3.length (cLk p.3)),.ext false (.s false 1 p.4.length (cT p.4))])):=by kernel_rfl
theorem zCy{c:Cir}{k:Int}{s:Sht}(h:qVy c k s=0):s.fx.length≤100000∧s.ad.length≤100000:=by
 rw[qVy] at h
 by_cases h0:xA c=0
 ·have hcn:=of_decide_eq_true (qHc h0)
  have hcn1:=hcn.1
  have hcn2:=hcn.2.1
  rw[if_neg (fun hh=>hh h0)] at h
  by_cases h1:k<3
  ·rw[if_pos h1] at h; omega
  ·rw[if_neg h1] at h
   by_cases h2:5<k
   ·rw[if_pos h2] at h; omega
   ·rw[if_neg h2] at h
    by_cases h3:wrT c.fx (usN k) s.fx=true
    ·rw[if_pos h3] at h; omega
    ·rw[if_neg h3] at h
     by_cases h4:wrT c.ad (usN k) s.ad=true
     ·rw[if_pos h4] at h; omega
     ·simp only[wrT,Bool.or_eq_true,not_or,Bool.not_eq_true',beq_eq_false_iff_ne,ne_eq,Decidable.not_not] at h3 h4
      omega
 ·rw[if_pos h0] at h; exact absurd h h0
theorem qAe{v:Nat}(h:v<top):(eI v=[(0:Int),(0:Int),(0:Int),(0:Int)])↔v=0:=by
 have z:=qZ 0 (by decide)
 have e0:eI 0=[(0:Int),(0:Int),(0:Int),(0:Int)]:=by simp only[eI,z.1,z.2.1,z.2.2.1,z.2.2.2]; rfl
 constructor
 ·intro e; exact zEg h (by decide) (e.trans e0.symm)
 ·intro e; rw[e]; exact e0
theorem qJx{v:Nat}(h:v<top)(e:(!decide (eI v=[(0:Int),(0:Int),(0:Int),(0:Int)]))=true):nzV v=1:=by
 have:¬ (eI v=[(0:Int),(0:Int),(0:Int),(0:Int)]):=fun h2=>by rw[decide_eq_true h2] at e; cases e
 exact if_neg fun hv=>this ((qAe h).2 hv)
theorem qTb{v:Nat}(h:v<top)(e:(!decide (eI v=[(0:Int),(0:Int),(0:Int),(0:Int)]))=false):nzV v=0:=by
 rw[Bool.not_eq_false'] at e
 have:=of_decide_eq_true e
 exact if_pos ((qAe h).1 this)
theorem zGm{l:List Pt}{j:Nat}(h:j<l.length):nzP (l.drop j)=nzV (gPt l j).v+nzP (l.drop (j+1)):=by rw[qCj h]; rfl
theorem qKw{l:List Nat}{j:Nat}(h:j<l.length):nzL (l.drop j)=nzV (gE l j)+nzL (l.drop (j+1)):=by
 rw[List.drop_eq_getElem_cons h,gE,List.getD_eq_getElem?_getD,List.getElem?_eq_getElem h]; rfl
theorem zDl{l:List (Int×List Pt)}{j:Nat}(h:j<l.length):nzR (l.drop j)=nzP (gRg l j).2+nzR (l.drop (j+1)):=by rw[qMh h]; rfl
theorem zEf{l:List (Int×List Nat)}{j:Nat}(h:j<l.length):nzB (l.drop j)=nzL (gTa l j).2+nzB (l.drop (j+1)):=by rw[qHs h]; rfl
theorem qWp{l:List (List Nat)}{j:Nat}(h:j<l.length):nzT (l.drop j)=nzL (gT l j)+nzT (l.drop (j+1)):=by rw[zJd h]; rfl
theorem zEk:∀(l:List Nat),nzL l≤l.length
 | []=>Nat.le_refl 0
 | v::t=>by
  have:=zEk t
  rw[nzL,nzV,List.length_cons]
  split <;> omega
theorem qXp{u:Nat}:∀(t:List (List Nat)),(∀ x∈t,x.length≤u)→nzT t≤t.length*u
 | [],_=>Nat.zero_le _
 | l::t,h=>by
  have a:=qXp t fun x hx=>h x (List.mem_cons_of_mem _ hx)
  have b:=zEk l
  have d:=h l List.mem_cons_self
  rw[nzT,List.length_cons,Nat.add_mul]
  omega
theorem qQl(c:Cir)(p:Pln)(k:Int)(s:Sht)(ss:List Int)(hp:p.ok)(hs:s.ok)(hat:∀ i,i<p.rg.length→∀ x∈(gRg p.rg i).2,atS s x.kd x.co (gI ss i+x.of)=x.v)(hrg:∀ i,i<p.rg.length→0≤gI ss i∧gI ss i≤28∧∀ x∈(gRg p.rg i).2,0≤x.of∧x.of≤28)(hsl:ss.length=p.rg.length)(i M2:Nat)(hi:i<p.rg.length)(e:Int)(Q:SV→List HO→Prop)(hq:FOk Try.prog Try.f5 Q (.rnd [0,0,1,0,1,1,1,1,1,1,1] M2::[.blk 0,.at [1,1,1,1,1,1,1,1]]) (St.mk [(12,SV.v (qA ((i+1:Nat):Int))),(11,SV.v (qA e)),(10,SV.p 0 0),(8,SV.x 1 []),(7,SV.p 2 0),(5,SV.p 3 0)] [HO.cells [SV.v (qD (0:Int)),SV.v (qD (0:Int)),SV.v (qD (0:Int)),SV.v (qD (0:Int))] 56,HO.ext false (qB.s false 1 ss.length (cI ss)),HO.cells [SV.x 4 [],SV.x 5 [],SV.x 6 [],SV.x 7 []] 49,HO.cells [SV.x 8 [],SV.x 9 [],SV.x 10 [],SV.x 11 []] 33,HO.ext false (qB.s false 1 (List.length s.1) (cT s.1)),HO.ext false (qB.s false 1 (List.length s.2) (cT s.2)),HO.ext false (qB.s false 1 (List.length s.3) (cT s.3)),HO.ext false (qB.s false 4 (List.length s.4) (cP s.4)),HO.ext false (qB.s false 2 (List.length p.1) (cRg p.1)),HO.ext false (qB.s false 2 (List.length p.2) (cTa p.2)),HO.ext false (qB.s false 6 (List.length p.3) (cLk p.3)),HO.ext false (qB.s false 1 (List.length p.4) (cT p.4))])):∀(d j:Nat) (m:Int),j+d=(gRg p.rg i).2.length→m+((nzP ((gRg p.rg i).2.drop j):Nat):Int)=e→0≤e→e<9000000000000000000→0≤m→m<9000000000000000000 →
  FOk Try.prog Try.f5 Q (.rnd [0,0,1,0,0,1,0,0,1,0,1,1,1,1,1,1,1] (d+1)::[.blk 2,.blk 1,.at [1,1,0,0,1,0,1,1,1,1,1,1,1],.rnd [0,0,1,0,1,1,1,1,1,1,1] M2,.blk 0,.at [1,1,1,1,1,1,1,1]]) (St.mk [(13,SV.v (qA (j:Int))),(12,SV.v (qA (↑i:Int))),(11,SV.v (qA m)),(10,SV.p 0 0),(8,SV.x 1 []),(7,SV.p 2 0),(5,SV.p 3 0)] [HO.cells [SV.v (qD (0:Int)),SV.v (qD (0:Int)),SV.v (qD (0:Int)),SV.v (qD (0:Int))] 56,HO.ext false (qB.s false 1 ss.length (cI ss)),HO.cells [SV.x 4 [],SV.x 5 [],SV.x 6 [],SV.x 7 []] 49,HO.cells [SV.x 8 [],SV.x 9 [],SV.x 10 [],SV.x 11 []] 33,HO.ext false (qB.s false 1 (List.length s.1) (cT s.1)),HO.ext false (qB.s false 1 (List.length s.2) (cT s.2)),HO.ext false (qB.s false 1 (List.length s.3) (cT s.3)),HO.ext false (qB.s false 4 (List.length s.4) (cP s.4)),HO.ext false (qB.s false 2 (List.length p.1) (cRg p.1)),HO.ext false (qB.s false 2 (List.length p.2) (cTa p.2)),HO.ext false (qB.s false 6 (List.length p.3) (cLk p.3)),HO.ext false (qB.s false 1 (List.length p.4) (cT p.4))])
 | 0,j,m,hd,he,e0,e1,m0,m1=>by
  have hb:=hp.r.2
  have hb2:=(hp.r.1 _ (xK hi)).2.2
  refine FOk.rnd (qE hm 60 ((zWe c p k s ss m i j 0 M2 _ _).mpr ⟨?_⟩))
  repeat' (refine And.intro (fun _=>by omega) ?_)
  rw[qF,if_neg (by omega),qN i (by omega)]
  rw[List.drop_eq_nil_of_le (by omega)] at he
  have:((nzP []:Nat):Int)=0:=rfl
  obtain rfl:m=e:=by omega
  exact hq
 | d+1,j,m,hd,he,e0,e1,m0,m1=>by
  have hj:j<(gRg p.rg i).2.length:=by omega
  have hb:=hp.r.2
  have hb2:=(hp.r.1 _ (xK hi)).2.2
  have hv:=((hp.r.1 _ (xK hi)).2.1 _ (qJz hj)).2.2.2
  rw[zGm hj] at he
  have ih:=fun m'=>qQl c p k s ss hp hs hat hrg hsl i M2 hi e Q hq d (j+1) m' (by omega)
  refine FOk.rnd (qE hm 60 ((zWe c p k s ss m i j (d+1) M2 _ _).mpr ⟨?_⟩))
  repeat' (refine And.intro (fun _=>by omega) ?_)
  rw[qF,if_pos (by omega),qN j (by omega)]
  repeat' (refine And.intro (fun _=>by omega) ?_)
  rw[jA (gI ss i+(gPt (gRg p.1 i).2 j).3) (by have a:=(hrg i hi).1; have b:=(hrg i hi).2.1; have d:=(hrg i hi).2.2 _ (qJz hj); omega)]
  refine zKw s hs ?_
  rw[hat i hi _ (qJz hj),decide_eq_true rfl,Bool.not_true,cond_false]
  refine qK (fun hh=>?_) (fun hh=>?_)
  ·rw[qJx hv hh] at he
   rw[jA (m+1) (by omega)]
   exact ih _ (by omega) e0 e1 (by omega) (by omega)
  ·rw[qTb hv hh] at he
   exact ih _ (by omega) e0 e1 m0 m1
theorem qOv(c:Cir)(p:Pln)(k:Int)(s:Sht)(ss:List Int)(hp:p.ok)(hs:s.ok)(hat:∀ i,i<p.rg.length→∀ x∈(gRg p.rg i).2,atS s x.kd x.co (gI ss i+x.of)=x.v)(hrg:∀ i,i<p.rg.length→0≤gI ss i∧gI ss i≤28∧∀ x∈(gRg p.rg i).2,0≤x.of∧x.of≤28)(hsl:ss.length=p.rg.length)(E:Int)(e0:0≤E)(e1:E<9000000000000000000)(Q:SV→List HO→Prop)(hq:FOk Try.prog Try.f5 Q (.at [0,1,0,1,1,1,1,1,1,1,1]::[.blk 4,.at [1,1,1,1,1,1,1,1,1]]) (St.mk [(15,SV.v (qA (0:Int))),(11,SV.v (qA E)),(10,SV.p 0 0),(7,SV.p 1 0),(5,SV.p 2 0)] [HO.cells [SV.v (qD (0:Int)),SV.v (qD (0:Int)),SV.v (qD (0:Int)),SV.v (qD (0:Int))] 56,HO.cells [SV.x 3 [],SV.x 4 [],SV.x 5 [],SV.x 6 []] 49,HO.cells [SV.x 7 [],SV.x 8 [],SV.x 9 [],SV.x 10 []] 33,HO.ext false (qB.s false 1 (List.length s.1) (cT s.1)),HO.ext false (qB.s false 1 (List.length s.2) (cT s.2)),HO.ext false (qB.s false 1 (List.length s.3) (cT s.3)),HO.ext false (qB.s false 4 (List.length s.4) (cP s.4)),HO.ext false (qB.s false 2 (List.length p.1) (cRg p.1)),HO.ext false (qB.s false 2 (List.length p.2) (cTa p.2)),HO.ext false (qB.s false 6 (List.length p.3) (cLk p.3)),HO.ext false (qB.s false 1 (List.length p.4) (cT p.4))])):∀(d i:Nat) (m:Int),i+d=p.rg.length→m+((nzR (p.rg.drop i):Nat):Int)=E→0≤m→m<9000000000000000000 →
  FOk Try.prog Try.f5 Q (.rnd [0,0,1,0,1,1,1,1,1,1,1] (d+1)::[.blk 0,.at [1,1,1,1,1,1,1,1]]) (St.mk [(12,SV.v (qA (i:Int))),(11,SV.v (qA (m:Int))),(10,SV.p 0 0),(8,SV.x 1 []),(7,SV.p 2 0),(5,SV.p 3 0)] [HO.cells [SV.v (qD (0:Int)),SV.v (qD (0:Int)),SV.v (qD (0:Int)),SV.v (qD (0:Int))] 56,HO.ext false (qB.s false 1 ss.length (cI ss)),HO.cells [SV.x 4 [],SV.x 5 [],SV.x 6 [],SV.x 7 []] 49,HO.cells [SV.x 8 [],SV.x 9 [],SV.x 10 [],SV.x 11 []] 33,HO.ext false (qB.s false 1 (List.length s.1) (cT s.1)),HO.ext false (qB.s false 1 (List.length s.2) (cT s.2)),HO.ext false (qB.s false 1 (List.length s.3) (cT s.3)),HO.ext false (qB.s false 4 (List.length s.4) (cP s.4)),HO.ext false (qB.s false 2 (List.length p.1) (cRg p.1)),HO.ext false (qB.s false 2 (List.length p.2) (cTa p.2)),HO.ext false (qB.s false 6 (List.length p.3) (cLk p.3)),HO.ext false (qB.s false 1 (List.length p.4) (cT p.4))])
 | 0,i,m,hd,he,m0,m1=>by
  refine FOk.rnd (qE hm 60 ((zUp c p k s ss m i 0 _ _).mpr ⟨?_⟩))
  rw[qF,if_neg (by omega)]
  rw[List.drop_eq_nil_of_le (by omega)] at he
  have:((nzR []:Nat):Int)=0:=rfl
  obtain rfl:m=E:=by omega
  exact hq
 | d+1,i,m,hd,he,m0,m1=>by
  have hi:i<p.rg.length:=by omega
  rw[zDl hi] at he
  refine FOk.rnd (qE hm 60 ((zUp c p k s ss m i (d+1) _ _).mpr ⟨?_⟩))
  rw[qF,if_pos (by omega)]
  refine FOk.loop ((gRg p.rg i).2.length+1) (by kernel_rfl) (qQl c p k s ss hp hs hat hrg hsl i (d+1) hi (m+((nzP (gRg p.rg i).2:Nat):Int)) Q (qOv c p k s ss hp hs hat hrg hsl E e0 e1 Q hq d (i+1) _ (by omega) (by omega) (by omega) (by omega)) (gRg p.rg i).2.length 0 m (by omega) (by rw[List.drop_zero]) (by omega) (by omega) m0 m1)
theorem qPs(c:Cir)(p:Pln)(k:Int)(s:Sht)(ss:List Int)(hp:p.ok)(hs:s.ok)(hat:∀ t∈p.tb,∀ j:Nat,atS s 2 t.1 (j:Int)=gE t.2 j)(i M2:Nat)(hi:i<p.tb.length)(e:Int)(Q:SV→List HO→Prop)(hq:FOk Try.prog Try.f5 Q (.rnd [0,0,1,0,1,1,1,1,1,1,1,1] M2::[.blk 4,.at [1,1,1,1,1,1,1,1,1]]) (St.mk [(15,SV.v (qA ((i+1:Nat):Int))),(11,SV.v (qA e)),(10,SV.p 0 0),(7,SV.p 1 0),(5,SV.p 2 0)] [HO.cells [SV.v (qD (0:Int)),SV.v (qD (0:Int)),SV.v (qD (0:Int)),SV.v (qD (0:Int))] 56,HO.cells [SV.x 3 [],SV.x 4 [],SV.x 5 [],SV.x 6 []] 49,HO.cells [SV.x 7 [],SV.x 8 [],SV.x 9 [],SV.x 10 []] 33,HO.ext false (qB.s false 1 (List.length s.1) (cT s.1)),HO.ext false (qB.s false 1 (List.length s.2) (cT s.2)),HO.ext false (qB.s false 1 (List.length s.3) (cT s.3)),HO.ext false (qB.s false 4 (List.length s.4) (cP s.4)),HO.ext false (qB.s false 2 (List.length p.1) (cRg p.1)),HO.ext false (qB.s false 2 (List.length p.2) (cTa p.2)),HO.ext false (qB.s false 6 (List.length p.3) (cLk p.3)),HO.ext false (qB.s false 1 (List.length p.4) (cT p.4))])):∀(d j:Nat) (m:Int),j+d=(gTa p.tb i).2.length→m+((nzL ((gTa p.tb i).2.drop j):Nat):Int)=e→0≤e→e<9000000000000000000→0≤m→m<9000000000000000000 →
  FOk Try.prog Try.f5 Q (.rnd [0,0,1,0,0,1,0,0,1,0,1,1,1,1,1,1,1,1] (d+1)::[.blk 6,.blk 5,.at [1,1,0,0,1,0,1,1,1,1,1,1,1,1],.rnd [0,0,1,0,1,1,1,1,1,1,1,1] M2,.blk 4,.at [1,1,1,1,1,1,1,1,1]]) (St.mk [(16,SV.v (qA (j:Int))),(15,SV.v (qA (↑i:Int))),(11,SV.v (qA m)),(10,SV.p 0 0),(7,SV.p 1 0),(5,SV.p 2 0)] [HO.cells [SV.v (qD (0:Int)),SV.v (qD (0:Int)),SV.v (qD (0:Int)),SV.v (qD (0:Int))] 56,HO.cells [SV.x 3 [],SV.x 4 [],SV.x 5 [],SV.x 6 []] 49,HO.cells [SV.x 7 [],SV.x 8 [],SV.x 9 [],SV.x 10 []] 33,HO.ext false (qB.s false 1 (List.length s.1) (cT s.1)),HO.ext false (qB.s false 1 (List.length s.2) (cT s.2)),HO.ext false (qB.s false 1 (List.length s.3) (cT s.3)),HO.ext false (qB.s false 4 (List.length s.4) (cP s.4)),HO.ext false (qB.s false 2 (List.length p.1) (cRg p.1)),HO.ext false (qB.s false 2 (List.length p.2) (cTa p.2)),HO.ext false (qB.s false 6 (List.length p.3) (cLk p.3)),HO.ext false (qB.s false 1 (List.length p.4) (cT p.4))])
 | 0,j,m,hd,he,e0,e1,m0,m1=>by
  have hb:=hp.t.2
  have hb2:=(hp.t.1 _ (qBd hi)).2.2
  refine FOk.rnd (qE hm 60 ((zTj c p k s ss m i j 0 M2 _ _).mpr ⟨?_⟩))
  repeat' (refine And.intro (fun _=>by omega) ?_)
  rw[qF,if_neg (by omega),qN i (by omega)]
  rw[List.drop_eq_nil_of_le (by omega)] at he
  have:((nzL []:Nat):Int)=0:=rfl
  obtain rfl:m=e:=by omega
  exact hq
 | d+1,j,m,hd,he,e0,e1,m0,m1=>by
  have hj:j<(gTa p.tb i).2.length:=by omega
  have hb:=hp.t.2
  have hb2:=(hp.t.1 _ (qBd hi)).2.2
  have hv:=wM (hp.t.1 _ (qBd hi)).2.1 j
  rw[qKw hj] at he
  have ih:=fun m'=>qPs c p k s ss hp hs hat i M2 hi e Q hq d (j+1) m' (by omega)
  refine FOk.rnd (qE hm 60 ((zTj c p k s ss m i j (d+1) M2 _ _).mpr ⟨?_⟩))
  repeat' (refine And.intro (fun _=>by omega) ?_)
  rw[qF,if_pos (by omega),qN j (by omega)]
  repeat' (refine And.intro (fun _=>by omega) ?_)
  refine zKw s hs ?_
  rw[hat _ (qBd hi) j,decide_eq_true rfl,Bool.not_true,cond_false]
  refine qK (fun hh=>?_) (fun hh=>?_)
  ·rw[qJx hv hh] at he
   rw[jA (m+1) (by omega)]
   exact ih _ (by omega) e0 e1 (by omega) (by omega)
  ·rw[qTb hv hh] at he
   exact ih _ (by omega) e0 e1 m0 m1
theorem qQd(c:Cir)(p:Pln)(k:Int)(s:Sht)(ss:List Int)(hp:p.ok)(hs:s.ok)(hat:∀ t∈p.tb,∀ j:Nat,atS s 2 t.1 (j:Int)=gE t.2 j)(E:Int)(e0:0≤E)(e1:E<9000000000000000000)(Q:SV→List HO→Prop)(hq:FOk Try.prog Try.f5 Q (.at [0,1,0,1,1,1,1,1,1,1,1,1]::[.blk 8,.at [1,1,1,1,1,1,1,1,1,1]]) (St.mk [(18,SV.v (qA (0:Int))),(11,SV.v (qA E)),(10,SV.p 0 0),(7,SV.p 1 0),(5,SV.p 2 0)] [HO.cells [SV.v (qD (0:Int)),SV.v (qD (0:Int)),SV.v (qD (0:Int)),SV.v (qD (0:Int))] 56,HO.cells [SV.x 3 [],SV.x 4 [],SV.x 5 [],SV.x 6 []] 49,HO.cells [SV.x 7 [],SV.x 8 [],SV.x 9 [],SV.x 10 []] 33,HO.ext false (qB.s false 1 (List.length s.1) (cT s.1)),HO.ext false (qB.s false 1 (List.length s.2) (cT s.2)),HO.ext false (qB.s false 1 (List.length s.3) (cT s.3)),HO.ext false (qB.s false 4 (List.length s.4) (cP s.4)),HO.ext false (qB.s false 2 (List.length p.1) (cRg p.1)),HO.ext false (qB.s false 2 (List.length p.2) (cTa p.2)),HO.ext false (qB.s false 6 (List.length p.3) (cLk p.3)),HO.ext false (qB.s false 1 (List.length p.4) (cT p.4))])):∀(d i:Nat) (m:Int),i+d=p.tb.length→m+((nzB (p.tb.drop i):Nat):Int)=E→0≤m→m<9000000000000000000 →
  FOk Try.prog Try.f5 Q (.rnd [0,0,1,0,1,1,1,1,1,1,1,1] (d+1)::[.blk 4,.at [1,1,1,1,1,1,1,1,1]]) (St.mk [(15,SV.v (qA (i:Int))),(11,SV.v (qA m)),(10,SV.p 0 0),(7,SV.p 1 0),(5,SV.p 2 0)] [HO.cells [SV.v (qD (0:Int)),SV.v (qD (0:Int)),SV.v (qD (0:Int)),SV.v (qD (0:Int))] 56,HO.cells [SV.x 3 [],SV.x 4 [],SV.x 5 [],SV.x 6 []] 49,HO.cells [SV.x 7 [],SV.x 8 [],SV.x 9 [],SV.x 10 []] 33,HO.ext false (qB.s false 1 (List.length s.1) (cT s.1)),HO.ext false (qB.s false 1 (List.length s.2) (cT s.2)),HO.ext false (qB.s false 1 (List.length s.3) (cT s.3)),HO.ext false (qB.s false 4 (List.length s.4) (cP s.4)),HO.ext false (qB.s false 2 (List.length p.1) (cRg p.1)),HO.ext false (qB.s false 2 (List.length p.2) (cTa p.2)),HO.ext false (qB.s false 6 (List.length p.3) (cLk p.3)),HO.ext false (qB.s false 1 (List.length p.4) (cT p.4))])
 | 0,i,m,hd,he,m0,m1=>by
  refine FOk.rnd (qE hm 60 ((zTm c p k s ss m i 0 _ _).mpr ⟨?_⟩))
  rw[qF,if_neg (by omega)]
  rw[List.drop_eq_nil_of_le (by omega)] at he
  have:((nzB []:Nat):Int)=0:=rfl
  obtain rfl:m=E:=by omega
  exact hq
 | d+1,i,m,hd,he,m0,m1=>by
  have hi:i<p.tb.length:=by omega
  rw[zEf hi] at he
  refine FOk.rnd (qE hm 60 ((zTm c p k s ss m i (d+1) _ _).mpr ⟨?_⟩))
  rw[qF,if_pos (by omega)]
  refine FOk.loop ((gTa p.tb i).2.length+1) (by kernel_rfl) (qPs c p k s ss hp hs hat i (d+1) hi (m+((nzL (gTa p.tb i).2:Nat):Int)) Q (qQd c p k s ss hp hs hat E e0 e1 Q hq d (i+1) _ (by omega) (by omega) (by omega) (by omega)) (gTa p.tb i).2.length 0 m (by omega) (by rw[List.drop_zero]) (by omega) (by omega) m0 m1)
theorem qPg(c:Cir)(p:Pln)(k:Int)(s:Sht)(ss:List Int)(hp:p.ok)(hs:s.ok)(i M2:Nat)(hi:i<s.fx.length)(e:Int)(Q:SV→List HO→Prop)(hq:FOk Try.prog Try.f5 Q (.rnd [0,0,1,0,1,1,1,1,1,1,1,1,1] M2::[.blk 8,.at [1,1,1,1,1,1,1,1,1,1]]) (St.mk [(18,SV.v (qA ((i+1:Nat):Int))),(11,SV.v (qA e)),(10,SV.p 0 0),(7,SV.p 1 0),(5,SV.p 2 0)] [HO.cells [SV.v (qD (0:Int)),SV.v (qD (0:Int)),SV.v (qD (0:Int)),SV.v (qD (0:Int))] 56,HO.cells [SV.x 3 [],SV.x 4 [],SV.x 5 [],SV.x 6 []] 49,HO.cells [SV.x 7 [],SV.x 8 [],SV.x 9 [],SV.x 10 []] 33,HO.ext false (qB.s false 1 (List.length s.1) (cT s.1)),HO.ext false (qB.s false 1 (List.length s.2) (cT s.2)),HO.ext false (qB.s false 1 (List.length s.3) (cT s.3)),HO.ext false (qB.s false 4 (List.length s.4) (cP s.4)),HO.ext false (qB.s false 2 (List.length p.1) (cRg p.1)),HO.ext false (qB.s false 2 (List.length p.2) (cTa p.2)),HO.ext false (qB.s false 6 (List.length p.3) (cLk p.3)),HO.ext false (qB.s false 1 (List.length p.4) (cT p.4))])):∀(d j:Nat) (m:Int),j+d=(gT s.fx i).length→m-((nzL ((gT s.fx i).drop j):Nat):Int)=e→0≤e→e<9000000000000000000→0≤m→m<9000000000000000000 →
  FOk Try.prog Try.f5 Q (.rnd [0,0,1,0,0,1,0,0,1,0,1,1,1,1,1,1,1,1,1] (d+1)::[.blk 10,.blk 9,.at [1,1,0,0,1,0,1,1,1,1,1,1,1,1,1],.rnd [0,0,1,0,1,1,1,1,1,1,1,1,1] M2,.blk 8,.at [1,1,1,1,1,1,1,1,1,1]]) (St.mk [(19,SV.v (qA (j:Int))),(18,SV.v (qA (↑i:Int))),(11,SV.v (qA m)),(10,SV.p 0 0),(7,SV.p 1 0),(5,SV.p 2 0)] [HO.cells [SV.v (qD (0:Int)),SV.v (qD (0:Int)),SV.v (qD (0:Int)),SV.v (qD (0:Int))] 56,HO.cells [SV.x 3 [],SV.x 4 [],SV.x 5 [],SV.x 6 []] 49,HO.cells [SV.x 7 [],SV.x 8 [],SV.x 9 [],SV.x 10 []] 33,HO.ext false (qB.s false 1 (List.length s.1) (cT s.1)),HO.ext false (qB.s false 1 (List.length s.2) (cT s.2)),HO.ext false (qB.s false 1 (List.length s.3) (cT s.3)),HO.ext false (qB.s false 4 (List.length s.4) (cP s.4)),HO.ext false (qB.s false 2 (List.length p.1) (cRg p.1)),HO.ext false (qB.s false 2 (List.length p.2) (cTa p.2)),HO.ext false (qB.s false 6 (List.length p.3) (cLk p.3)),HO.ext false (qB.s false 1 (List.length p.4) (cT p.4))])
 | 0,j,m,hd,he,e0,e1,m0,m1=>by
  have hb:=hs.f.2
  have hb2:=(hs.f.1 _ (qBt hi)).2
  refine FOk.rnd (qE hm 60 ((zTp c p k s ss m i j 0 M2 _ _).mpr ⟨?_⟩))
  repeat' (refine And.intro (fun _=>by omega) ?_)
  rw[qF,if_neg (by omega),qN i (by omega)]
  rw[List.drop_eq_nil_of_le (by omega)] at he
  have:((nzL []:Nat):Int)=0:=rfl
  obtain rfl:m=e:=by omega
  exact hq
 | d+1,j,m,hd,he,e0,e1,m0,m1=>by
  have hj:j<(gT s.fx i).length:=by omega
  have hb:=hs.f.2
  have hb2:=(hs.f.1 _ (qBt hi)).2
  have hv:=wM (hs.f.1 _ (qBt hi)).1 j
  rw[qKw hj] at he
  have ih:=fun m'=>qPg c p k s ss hp hs  i M2 hi e Q hq d (j+1) m' (by omega)
  refine FOk.rnd (qE hm 60 ((zTp c p k s ss m i j (d+1) M2 _ _).mpr ⟨?_⟩))
  repeat' (refine And.intro (fun _=>by omega) ?_)
  rw[qF,if_pos (by omega),qN j (by omega)]
  repeat' (refine And.intro (fun _=>by omega) ?_)
  refine qK (fun hh=>?_) (fun hh=>?_)
  ·rw[qJx hv hh] at he
   rw[jA (m-1) (by omega)]
   exact ih _ (by omega) e0 e1 (by omega) (by omega)
  ·rw[qTb hv hh] at he
   exact ih _ (by omega) e0 e1 m0 m1
theorem qQi(c:Cir)(p:Pln)(k:Int)(s:Sht)(ss:List Int)(hp:p.ok)(hs:s.ok)(E:Int)(e0:0≤E)(e1:E<9000000000000000000)(Q:SV→List HO→Prop)(hq:FOk Try.prog Try.f5 Q (.at [0,1,0,1,1,1,1,1,1,1,1,1,1]::[.blk 12,.at [1,1,1,1,1,1,1,1,1,1,1]]) (St.mk [(20,SV.v (qA (0:Int))),(11,SV.v (qA E)),(10,SV.p 0 0),(7,SV.p 1 0),(5,SV.p 2 0)] [HO.cells [SV.v (qD (0:Int)),SV.v (qD (0:Int)),SV.v (qD (0:Int)),SV.v (qD (0:Int))] 56,HO.cells [SV.x 3 [],SV.x 4 [],SV.x 5 [],SV.x 6 []] 49,HO.cells [SV.x 7 [],SV.x 8 [],SV.x 9 [],SV.x 10 []] 33,HO.ext false (qB.s false 1 (List.length s.1) (cT s.1)),HO.ext false (qB.s false 1 (List.length s.2) (cT s.2)),HO.ext false (qB.s false 1 (List.length s.3) (cT s.3)),HO.ext false (qB.s false 4 (List.length s.4) (cP s.4)),HO.ext false (qB.s false 2 (List.length p.1) (cRg p.1)),HO.ext false (qB.s false 2 (List.length p.2) (cTa p.2)),HO.ext false (qB.s false 6 (List.length p.3) (cLk p.3)),HO.ext false (qB.s false 1 (List.length p.4) (cT p.4))])):∀(d i:Nat) (m:Int),i+d=s.fx.length→m-((nzT (s.fx.drop i):Nat):Int)=E→0≤m→m<9000000000000000000 →
  FOk Try.prog Try.f5 Q (.rnd [0,0,1,0,1,1,1,1,1,1,1,1,1] (d+1)::[.blk 8,.at [1,1,1,1,1,1,1,1,1,1]]) (St.mk [(18,SV.v (qA (i:Int))),(11,SV.v (qA m)),(10,SV.p 0 0),(7,SV.p 1 0),(5,SV.p 2 0)] [HO.cells [SV.v (qD (0:Int)),SV.v (qD (0:Int)),SV.v (qD (0:Int)),SV.v (qD (0:Int))] 56,HO.cells [SV.x 3 [],SV.x 4 [],SV.x 5 [],SV.x 6 []] 49,HO.cells [SV.x 7 [],SV.x 8 [],SV.x 9 [],SV.x 10 []] 33,HO.ext false (qB.s false 1 (List.length s.1) (cT s.1)),HO.ext false (qB.s false 1 (List.length s.2) (cT s.2)),HO.ext false (qB.s false 1 (List.length s.3) (cT s.3)),HO.ext false (qB.s false 4 (List.length s.4) (cP s.4)),HO.ext false (qB.s false 2 (List.length p.1) (cRg p.1)),HO.ext false (qB.s false 2 (List.length p.2) (cTa p.2)),HO.ext false (qB.s false 6 (List.length p.3) (cLk p.3)),HO.ext false (qB.s false 1 (List.length p.4) (cT p.4))])
 | 0,i,m,hd,he,m0,m1=>by
  refine FOk.rnd (qE hm 60 ((zVy c p k s ss m i 0 _ _).mpr ⟨?_⟩))
  rw[qF,if_neg (by omega)]
  rw[List.drop_eq_nil_of_le (by omega)] at he
  have:((nzT []:Nat):Int)=0:=rfl
  obtain rfl:m=E:=by omega
  exact hq
 | d+1,i,m,hd,he,m0,m1=>by
  have hi:i<s.fx.length:=by omega
  rw[qWp hi] at he
  refine FOk.rnd (qE hm 60 ((zVy c p k s ss m i (d+1) _ _).mpr ⟨?_⟩))
  rw[qF,if_pos (by omega)]
  refine FOk.loop ((gT s.fx i).length+1) (by kernel_rfl) (qPg c p k s ss hp hs  i (d+1) hi (m-((nzL (gT s.fx i):Nat):Int)) Q (qQi c p k s ss hp hs  E e0 e1 Q hq d (i+1) _ (by omega) (by omega) (by omega) (by omega)) (gT s.fx i).length 0 m (by omega) (by rw[List.drop_zero]) (by omega) (by omega) m0 m1)
theorem qQr(c:Cir)(p:Pln)(k:Int)(s:Sht)(ss:List Int)(hp:p.ok)(hs:s.ok)(i M2:Nat)(hi:i<s.ad.length)(e:Int)(Q:SV→List HO→Prop)(hq:FOk Try.prog Try.f5 Q (.rnd [0,0,1,0,1,1,1,1,1,1,1,1,1,1] M2::[.blk 12,.at [1,1,1,1,1,1,1,1,1,1,1]]) (St.mk [(20,SV.v (qA ((i+1:Nat):Int))),(11,SV.v (qA e)),(10,SV.p 0 0),(7,SV.p 1 0),(5,SV.p 2 0)] [HO.cells [SV.v (qD (0:Int)),SV.v (qD (0:Int)),SV.v (qD (0:Int)),SV.v (qD (0:Int))] 56,HO.cells [SV.x 3 [],SV.x 4 [],SV.x 5 [],SV.x 6 []] 49,HO.cells [SV.x 7 [],SV.x 8 [],SV.x 9 [],SV.x 10 []] 33,HO.ext false (qB.s false 1 (List.length s.1) (cT s.1)),HO.ext false (qB.s false 1 (List.length s.2) (cT s.2)),HO.ext false (qB.s false 1 (List.length s.3) (cT s.3)),HO.ext false (qB.s false 4 (List.length s.4) (cP s.4)),HO.ext false (qB.s false 2 (List.length p.1) (cRg p.1)),HO.ext false (qB.s false 2 (List.length p.2) (cTa p.2)),HO.ext false (qB.s false 6 (List.length p.3) (cLk p.3)),HO.ext false (qB.s false 1 (List.length p.4) (cT p.4))])):∀(d j:Nat) (m:Int),j+d=(gT s.ad i).length→m-((nzL ((gT s.ad i).drop j):Nat):Int)=e→0≤e→e<9000000000000000000→0≤m→m<9000000000000000000 →
  FOk Try.prog Try.f5 Q (.rnd [0,0,1,0,0,1,0,0,1,0,1,1,1,1,1,1,1,1,1,1] (d+1)::[.blk 14,.blk 13,.at [1,1,0,0,1,0,1,1,1,1,1,1,1,1,1,1],.rnd [0,0,1,0,1,1,1,1,1,1,1,1,1,1] M2,.blk 12,.at [1,1,1,1,1,1,1,1,1,1,1]]) (St.mk [(21,SV.v (qA (j:Int))),(20,SV.v (qA (↑i:Int))),(11,SV.v (qA m)),(10,SV.p 0 0),(7,SV.p 1 0),(5,SV.p 2 0)] [HO.cells [SV.v (qD (0:Int)),SV.v (qD (0:Int)),SV.v (qD (0:Int)),SV.v (qD (0:Int))] 56,HO.cells [SV.x 3 [],SV.x 4 [],SV.x 5 [],SV.x 6 []] 49,HO.cells [SV.x 7 [],SV.x 8 [],SV.x 9 [],SV.x 10 []] 33,HO.ext false (qB.s false 1 (List.length s.1) (cT s.1)),HO.ext false (qB.s false 1 (List.length s.2) (cT s.2)),HO.ext false (qB.s false 1 (List.length s.3) (cT s.3)),HO.ext false (qB.s false 4 (List.length s.4) (cP s.4)),HO.ext false (qB.s false 2 (List.length p.1) (cRg p.1)),HO.ext false (qB.s false 2 (List.length p.2) (cTa p.2)),HO.ext false (qB.s false 6 (List.length p.3) (cLk p.3)),HO.ext false (qB.s false 1 (List.length p.4) (cT p.4))])
 | 0,j,m,hd,he,e0,e1,m0,m1=>by
  have hb:=hs.a.2
  have hb2:=(hs.a.1 _ (qBt hi)).2
  refine FOk.rnd (qE hm 60 ((zWf c p k s ss m i j 0 M2 _ _).mpr ⟨?_⟩))
  repeat' (refine And.intro (fun _=>by omega) ?_)
  rw[qF,if_neg (by omega),qN i (by omega)]
  rw[List.drop_eq_nil_of_le (by omega)] at he
  have:((nzL []:Nat):Int)=0:=rfl
  obtain rfl:m=e:=by omega
  exact hq
 | d+1,j,m,hd,he,e0,e1,m0,m1=>by
  have hj:j<(gT s.ad i).length:=by omega
  have hb:=hs.a.2
  have hb2:=(hs.a.1 _ (qBt hi)).2
  have hv:=wM (hs.a.1 _ (qBt hi)).1 j
  rw[qKw hj] at he
  have ih:=fun m'=>qQr c p k s ss hp hs  i M2 hi e Q hq d (j+1) m' (by omega)
  refine FOk.rnd (qE hm 60 ((zWf c p k s ss m i j (d+1) M2 _ _).mpr ⟨?_⟩))
  repeat' (refine And.intro (fun _=>by omega) ?_)
  rw[qF,if_pos (by omega),qN j (by omega)]
  repeat' (refine And.intro (fun _=>by omega) ?_)
  refine qK (fun hh=>?_) (fun hh=>?_)
  ·rw[qJx hv hh] at he
   rw[jA (m-1) (by omega)]
   exact ih _ (by omega) e0 e1 (by omega) (by omega)
  ·rw[qTb hv hh] at he
   exact ih _ (by omega) e0 e1 m0 m1
theorem qPb(c:Cir)(p:Pln)(k:Int)(s:Sht)(ss:List Int)(hp:p.ok)(hs:s.ok)(E:Int)(e0:0≤E)(e1:E<9000000000000000000)(Q:SV→List HO→Prop)(hE:E=0)(his:s.is=p.is)(hcp:s.cp.length=p.lk.length)(hq:Q (SV.v (Value.bool true)) []):∀(d i:Nat) (m:Int),i+d=s.ad.length→m-((nzT (s.ad.drop i):Nat):Int)=E→0≤m→m<9000000000000000000 →
  FOk Try.prog Try.f5 Q (.rnd [0,0,1,0,1,1,1,1,1,1,1,1,1,1] (d+1)::[.blk 12,.at [1,1,1,1,1,1,1,1,1,1,1]]) (St.mk [(20,SV.v (qA (i:Int))),(11,SV.v (qA m)),(10,SV.p 0 0),(7,SV.p 1 0),(5,SV.p 2 0)] [HO.cells [SV.v (qD (0:Int)),SV.v (qD (0:Int)),SV.v (qD (0:Int)),SV.v (qD (0:Int))] 56,HO.cells [SV.x 3 [],SV.x 4 [],SV.x 5 [],SV.x 6 []] 49,HO.cells [SV.x 7 [],SV.x 8 [],SV.x 9 [],SV.x 10 []] 33,HO.ext false (qB.s false 1 (List.length s.1) (cT s.1)),HO.ext false (qB.s false 1 (List.length s.2) (cT s.2)),HO.ext false (qB.s false 1 (List.length s.3) (cT s.3)),HO.ext false (qB.s false 4 (List.length s.4) (cP s.4)),HO.ext false (qB.s false 2 (List.length p.1) (cRg p.1)),HO.ext false (qB.s false 2 (List.length p.2) (cTa p.2)),HO.ext false (qB.s false 6 (List.length p.3) (cLk p.3)),HO.ext false (qB.s false 1 (List.length p.4) (cT p.4))])
 | 0,i,m,hd,he,m0,m1=>by
  refine FOk.rnd (qE hm 60 ((zVk c p k s ss m i 0 _ _).mpr ⟨?_⟩))
  rw[qF,if_neg (by omega)]
  rw[List.drop_eq_nil_of_le (by omega)] at he
  have:((nzT []:Nat):Int)=0:=rfl
  obtain rfl:m=E:=by omega
  rw[hE,show((0:Int)==0)=true from rfl,cond_true,his]
  refine qLt hp.i (qLt hp.i ⟨rfl,?_⟩)
  rw[hcp,beq_self_eq_true]
  exact hq
 | d+1,i,m,hd,he,m0,m1=>by
  have hi:i<s.ad.length:=by omega
  rw[qWp hi] at he
  refine FOk.rnd (qE hm 60 ((zVk c p k s ss m i (d+1) _ _).mpr ⟨?_⟩))
  rw[qF,if_pos (by omega)]
  refine FOk.loop ((gT s.ad i).length+1) (by kernel_rfl) (qQr c p k s ss hp hs  i (d+1) hi (m-((nzL (gT s.ad i):Nat):Int)) Q (qPb c p k s ss hp hs  E e0 e1 Q hE his hcp hq d (i+1) _ (by omega) (by omega) (by omega) (by omega)) (gT s.ad i).length 0 m (by omega) (by rw[List.drop_zero]) (by omega) (by omega) m0 m1)
theorem zWv:Try.f5.body.isSome=true:=by kernel_rfl
theorem zXc(c:Cir)(k:Int):Nat.ble ([.agg [.v (.int .i64 c.fx),.v (.int .i64 c.ad),.v (.int .i64 c.ins),.x 0 [],.x 1 [],.x 2 [],.x 3 []],.v (.int .i64 k),.agg [.x 4 [],.x 5 [],.x 6 [],.x 7 []]]:List SV).length Try.f5.ntmps=true:=by kernel_rfl
theorem zCr(c:Cir)(p:Pln)(k:Int)(s:Sht)(ss:List Int)(hp:p.ok)(hs:s.ok)(h0:(qS c k p).2=0)(es:s=(qS c k p).1.1)(ess:ss=(qS c k p).1.2)(Q:SV→List HO→Prop)(hq:Q (SV.v (Value.bool true)) []):FOk Try.prog Try.f5 Q (.at [0,1,0,1,1,1,1,1,1,1]::[.blk 0,.at [1,1,1,1,1,1,1,1]]) (St.mk [(12,SV.v (qA (0:Int))),(11,SV.v (qA (0:Int))),(10,SV.p 0 0),(8,SV.x 1 []),(7,SV.p 2 0),(5,SV.p 3 0)] [HO.cells [SV.v (qD (0:Int)),SV.v (qD (0:Int)),SV.v (qD (0:Int)),SV.v (qD (0:Int))] 56,HO.ext false (qB.s false 1 ss.length (cI ss)),HO.cells [SV.x 4 [],SV.x 5 [],SV.x 6 [],SV.x 7 []] 49,HO.cells [SV.x 8 [],SV.x 9 [],SV.x 10 [],SV.x 11 []] 33,HO.ext false (qB.s false 1 (List.length s.1) (cT s.1)),HO.ext false (qB.s false 1 (List.length s.2) (cT s.2)),HO.ext false (qB.s false 1 (List.length s.3) (cT s.3)),HO.ext false (qB.s false 4 (List.length s.4) (cP s.4)),HO.ext false (qB.s false 2 (List.length p.1) (cRg p.1)),HO.ext false (qB.s false 2 (List.length p.2) (cTa p.2)),HO.ext false (qB.s false 6 (List.length p.3) (cLk p.3)),HO.ext false (qB.s false 1 (List.length p.4) (cT p.4))]):=by
 have W:=zCt h0
 have ap:=qDc h0
 have I:laI c k p:=qKn (qEk h0).choose_spec.choose_spec.1
 obtain⟨w1,w2,w3,w4,w5⟩:=W
 rw[← es] at w1 w2 w3 w4 w5
 rw[← ess] at w1 ap
 have hu:=I.us
 have hA:nzT s.fx≤s.fx.length*4398046511104:=qXp s.fx fun x hx=>by have:=(hs.f.1 x hx).2; omega
 have hB:nzT s.ad≤s.ad.length*4398046511104:=qXp s.ad fun x hx=>by have:=(hs.a.1 x hx).2; omega
 have hf:=zCy (zDf h0)
 rw[← es] at hf
 have B1:(nzR p.rg:Int)+(nzB p.tb:Int)=(nzT s.fx:Int)+(nzT s.ad:Int):=by omega
 have B2:(nzT s.fx:Int)+(nzT s.ad:Int)<9000000000000000000:=by omega
 have q3:=fun E e0 e1 hE=>qPb c p k s ss hp hs E e0 e1 Q hE w4 w5 hq s.ad.length 0 (nzT s.ad:Int) (by omega) (by rw[List.drop_zero]; omega) (by omega) (by omega)
 have q2:=qQi c p k s ss hp hs (nzT s.ad:Int) (by omega) (by omega) Q (FOk.loop (s.ad.length+1) (by kernel_rfl) (q3 0 (by omega) (by omega) rfl)) s.fx.length 0 ((nzT s.fx:Int)+(nzT s.ad:Int)) (by omega) (by rw[List.drop_zero]; omega) (by omega) (by omega)
 have q1:=qQd c p k s ss hp hs w2 ((nzT s.fx:Int)+(nzT s.ad:Int)) (by omega) (by omega) Q (FOk.loop (s.fx.length+1) (by kernel_rfl) q2) p.tb.length 0 (nzR p.rg:Int) (by omega) (by rw[List.drop_zero]; omega) (by omega) (by omega)
 have q0:=qOv c p k s ss hp hs w1 (fun i hi=>by
  have a:=ap.rng i hi
  have b:=(I.pr.r _ (xK hi)).w
  have d:=(I.pr.r _ (xK hi)).x
  refine⟨a.1,by omega,fun x hx=>?_⟩
  have e:=(d x hx).o0
  have f:=(d x hx).o1
  omega) ap.len (nzR p.rg:Int) (by omega) (by omega) Q (FOk.loop (p.tb.length+1) (by kernel_rfl) q1) p.rg.length 0 0 (by omega) (by rw[List.drop_zero]; omega) (by omega) (by omega)
 exact FOk.loop (p.rg.length+1) (by kernel_rfl) q0
theorem qJj(c:Cir)(hc:c.ok)(p:Pln)(hp:p.ok)(k:Int)(Q:SV→List HO→Prop)(hq:Q (.v (.bool true)) []):qI Try.prog 5 [.agg [.v (.int .i64 c.fx),.v (.int .i64 c.ad),.v (.int .i64 c.ins),.x 0 [],.x 1 [],.x 2 [],.x 3 []],.v (.int .i64 k),.agg [.x 4 [],.x 5 [],.x 6 [],.x 7 []]] [.ext false (.s false 7 c.nodes.length (cN c.nodes)),.ext false (.s false 1 c.gates.length (cI c.gates)),.ext false (.s false 2 c.looks.length (cL c.looks)),.ext false (.s false 2 c.eqs.length (cK c.eqs)),.ext false (.s false 2 p.1.length (cRg p.1)),.ext false (.s false 2 p.2.length (cTa p.2)),.ext false (.s false 6 p.3.length (cLk p.3)),.ext false (.s false 1 p.4.length (cT p.4))] Q:=by
 refine qJ Try.func5 zWv (zXc c k) ?_
 refine qE hm 60 ((vaS c p k _ _).mpr ⟨?_⟩)
 refine wP c hc p hp ⟨fun b=>qK (fun _=>hq) fun _=>?_⟩
 have E:(∀(_:Mem),4≤4)∧Q (.v (.bool true)) []:=⟨fun _=>Nat.le_refl 4,hq⟩
 have fin:∀(kS:Sht→List Int→Prop),((qS c k p).2=0→kS (qS c k p).1.1 (qS c k p).1.2)→qXc c.1 c.2 c.3 k (List.length c.4) (List.length c.5) (List.length c.6) (List.length c.7) (List.length p.1) (List.length p.2) (List.length p.3) (List.length p.4) (cN c.4) (cI c.5) (cL c.6) (cK c.7) (cRg p.1) (cTa p.2) (cLk p.3) (cT p.4) ((∀(M:Mem),4≤4)∧Q (SV.v (Value.bool true)) []) ((∀(M:Mem),4≤4)∧Q (SV.v (Value.bool true)) []) ((∀(M:Mem),4≤4)∧Q (SV.v (Value.bool true)) []) ((∀(M:Mem),4≤4)∧Q (SV.v (Value.bool true)) []) ((∀(M:Mem),4≤4)∧Q (SV.v (Value.bool true)) []) kS:=fun kS hk=>⟨wP c hc p hp ⟨fun _=>E,fun _=>E,fun _=>E,fun _=>E,fun _=>E,hk⟩⟩
 have hK:(qS c k p).2=0→FOk Try.prog Try.f5 Q (.at [0,1,0,1,1,1,1,1,1,1]::[.blk 0,.at [1,1,1,1,1,1,1,1]]) (St.mk [(12,SV.v (qA (0:Int))),(11,SV.v (qA (0:Int))),(10,SV.p 0 0),(8,SV.x 1 []),(7,SV.p 2 0),(5,SV.p 3 0)] [HO.cells [SV.v (qD (0:Int)),SV.v (qD (0:Int)),SV.v (qD (0:Int)),SV.v (qD (0:Int))] 56,HO.ext false (qB.s false 1 (List.length (qS c k p).1.2) (cI (qS c k p).1.2)),HO.cells [SV.x 4 [],SV.x 5 [],SV.x 6 [],SV.x 7 []] 49,HO.cells [SV.x 8 [],SV.x 9 [],SV.x 10 [],SV.x 11 []] 33,HO.ext false (qB.s false 1 (List.length (qS c k p).1.1.1) (cT (qS c k p).1.1.1)),HO.ext false (qB.s false 1 (List.length (qS c k p).1.1.2) (cT (qS c k p).1.1.2)),HO.ext false (qB.s false 1 (List.length (qS c k p).1.1.3) (cT (qS c k p).1.1.3)),HO.ext false (qB.s false 4 (List.length (qS c k p).1.1.4) (cP (qS c k p).1.1.4)),HO.ext false (qB.s false 2 (List.length p.1) (cRg p.1)),HO.ext false (qB.s false 2 (List.length p.2) (cTa p.2)),HO.ext false (qB.s false 6 (List.length p.3) (cLk p.3)),HO.ext false (qB.s false 1 (List.length p.4) (cT p.4))]):=fun h0=>zCr c p k _ _ hp (zGg hp h0) h0 rfl rfl Q hq
 repeat' (first | refine fin _ (fun h0=>?_) | exact hK ‹(qS c k p).2=0› | refine And.intro (fun _=>Nat.le_refl 4) ?_ | refine And.intro ?_ ?_ | refine qLj c hc ?_ | refine zFz p hp ?_)
end Go.Proofs.Ytlmjdcbhpffanaa
/- Arguments' types: plans. -/
namespace Go.Pl
open Go.Sx
def zMj(x:Int×Int×Int)(j:Nat):qB :=
 match j with
 | 0=>.v (.int .i64 x.1)
 | 1=>.v (.int .i64 x.2.1)
 | 2=>.v (.int .i64 x.2.2)
 | _=>.v undef
noncomputable def zIf(p:Pln)(j:Nat):qB :=
 match j with
 | 0=>.s false 2 p.rg.length (cRg p.rg)
 | 1=>.s false 2 p.tb.length (cTa p.tb)
 | 2=>.s false 6 p.lk.length (cLk p.lk)
 | 3=>.s false 1 p.is.length (cT p.is)
 | _=>.v undef
end Go.Pl
namespace Go.Proofs.Ytlmjdcbhpffanaa
open Go.Sx Go.Pl Go.RowKit Go.ChangeShapes Go.WideShapes Go.ChangeAt
set_option linter.unusedVariables false
set_option maxRecDepth 100000
theorem u58:Try.prog.underlying 58=some (.struct #[⟨"Kind",3,0,false, "", "",0⟩,⟨"Col",3,1,false, "", "",8⟩,⟨"Off",3,2,false, "", "",16⟩,⟨"V",56,3,false, "", "",24⟩]):=by kernel_rfl
theorem c58:Try.prog.cellsOf 58=7:=by kernel_rfl
theorem zPt:Cod Try.prog 58 7 qDf (Pt.ok) where
 cells:=c58
 opn:=by
  intro H enc w base sp hd n cs d p hl h hw
  obtain⟨xs,k,_,hx,_,hxl,hf⟩:=DataW.trod_struct u58 h
  simp only[pI] at hx
  obtain⟨rfl,rfl⟩:=hx
  have hW:∀ x∈DataW.weightsEach Try.prog [3,3,3,56] (xs.map (·.1)),x≤reachBytes:=fun x hx=>hw x (by simp only[DataW.weights,u58]; exact hx)
  have hxl:xs.length=4:=hxl
  obtain⟨x0,o0,r0⟩:=wJ.field (off:=0) (hf 0 _ rfl) (by omega) hW rfl (by omega)
  obtain⟨x1,o1,r1⟩:=wJ.field (off:=1) (hf 1 _ rfl) (by omega) hW rfl (by omega)
  obtain⟨x2,o2,r2⟩:=wJ.field (off:=2) (hf 2 _ rfl) (by omega) hW rfl (by omega)
  obtain⟨x3,o3,r3⟩:=zEd.field (off:=3) (hf 3 _ rfl) (by omega) hW rfl (by omega)
  refine⟨⟨x0,x1,x2,x3⟩,⟨o0,o1,o2,o3⟩,fun j hj=>?_⟩
  match j,hj with
  | 0,_=>exact r0 0 (by omega)
  | 1,_=>exact r1 0 (by omega)
  | 2,_=>exact r2 0 (by omega)
  | 3,_=>exact r3 0 (by omega)
  | 4,_=>exact r3 1 (by omega)
  | 5,_=>exact r3 2 (by omega)
  | 6,_=>exact r3 3 (by omega)
theorem zYn:Try.prog.bytesOf 58=56:=by kernel_rfl
theorem u41:Try.prog.underlying 41=some (.slice 58):=by kernel_rfl
theorem c41:Try.prog.cellsOf 41=1:=by kernel_rfl
theorem zHn:Cod Try.prog 41 1 (fun(l:List (Pt)) _=>.s false 7 l.length (cPt l)) (fun l=>(∀ x∈l,x.ok)∧l.length*56≤140737488351232):=(Cod.slice zPt u41 c41 dPt).mono fun l h=>by
 obtain⟨h1,h2⟩:=h
 rw[zYn,reachBytes] at h2
 exact⟨h1,h2⟩
theorem u43:Try.prog.underlying 43=some (.struct #[⟨"Rows",3,0,false, "", "",0⟩,⟨"Puts",41,1,false, "", "",8⟩]):=by kernel_rfl
theorem c43:Try.prog.cellsOf 43=2:=by kernel_rfl
theorem zOc:Cod Try.prog 43 2 qYe (fun x=>i64 x.1∧zNm x.2) where
 cells:=c43
 opn:=by
  intro H enc w base sp hd n cs d p hl h hw
  obtain⟨xs,k,_,hx,_,hxl,hf⟩:=DataW.trod_struct u43 h
  simp only[pI] at hx
  obtain⟨rfl,rfl⟩:=hx
  have hW:∀ x∈DataW.weightsEach Try.prog [3,41] (xs.map (·.1)),x≤reachBytes:=fun x hx=>hw x (by simp only[DataW.weights,u43]; exact hx)
  have hxl:xs.length=2:=hxl
  obtain⟨x0,o0,r0⟩:=wJ.field (off:=0) (hf 0 _ rfl) (by omega) hW rfl (by omega)
  obtain⟨x1,o1,r1⟩:=zHn.field (off:=1) (hf 1 _ rfl) (by omega) hW rfl (by omega)
  refine⟨(x0,x1),⟨o0,o1⟩,fun j hj=>?_⟩
  match j,hj with
  | 0,_=>exact r0 0 (by omega)
  | 1,_=>exact r1 0 (by omega)
theorem jBb:Try.prog.bytesOf 43=32:=by kernel_rfl
theorem u28:Try.prog.underlying 28=some (.slice 43):=by kernel_rfl
theorem c28:Try.prog.cellsOf 28=1:=by kernel_rfl
theorem zJz:Cod Try.prog 28 1 (fun(l:List (Int×List Pt)) _=>.s false 2 l.length (cRg l)) (fun l=>(∀ x∈l,i64 x.1∧zNm x.2)∧l.length*32≤140737488351232):=(Cod.slice zOc u28 c28 (0,[])).mono fun l h=>by
 obtain⟨h1,h2⟩:=h
 rw[jBb,reachBytes] at h2
 exact⟨h1,h2⟩
theorem u46:Try.prog.underlying 46=some (.struct #[⟨"Col",3,0,false, "", "",0⟩,⟨"Values",44,1,false, "", "",8⟩]):=by kernel_rfl
theorem c46:Try.prog.cellsOf 46=2:=by kernel_rfl
theorem zLx:Cod Try.prog 46 2 qYl (fun x=>i64 x.1∧(∀ v∈x.2,v<top)∧x.2.length*32≤140737488351232) where
 cells:=c46
 opn:=by
  intro H enc w base sp hd n cs d p hl h hw
  obtain⟨xs,k,_,hx,_,hxl,hf⟩:=DataW.trod_struct u46 h
  simp only[pI] at hx
  obtain⟨rfl,rfl⟩:=hx
  have hW:∀ x∈DataW.weightsEach Try.prog [3,44] (xs.map (·.1)),x≤reachBytes:=fun x hx=>hw x (by simp only[DataW.weights,u46]; exact hx)
  have hxl:xs.length=2:=hxl
  obtain⟨x0,o0,r0⟩:=wJ.field (off:=0) (hf 0 _ rfl) (by omega) hW rfl (by omega)
  obtain⟨x1,o1,r1⟩:=zEc.field (off:=1) (hf 1 _ rfl) (by omega) hW rfl (by omega)
  refine⟨(x0,x1),⟨o0,o1⟩,fun j hj=>?_⟩
  match j,hj with
  | 0,_=>exact r0 0 (by omega)
  | 1,_=>exact r1 0 (by omega)
theorem zZw:Try.prog.bytesOf 46=32:=by kernel_rfl
theorem u29:Try.prog.underlying 29=some (.slice 46):=by kernel_rfl
theorem c29:Try.prog.cellsOf 29=1:=by kernel_rfl
theorem zIx:Cod Try.prog 29 1 (fun(l:List (Int×List Nat)) _=>.s false 2 l.length (cTa l)) (fun l=>(∀ x∈l,i64 x.1∧(∀ v∈x.2,v<top)∧x.2.length*32≤140737488351232)∧l.length*32≤140737488351232):=(Cod.slice zLx u29 c29 (0,[])).mono fun l h=>by
 obtain⟨h1,h2⟩:=h
 rw[zZw,reachBytes] at h2
 exact⟨h1,h2⟩
theorem u96:Try.prog.underlying 96=some (.struct #[⟨"Region",3,0,false, "", "",0⟩,⟨"Col",3,1,false, "", "",8⟩,⟨"Off",3,2,false, "", "",16⟩]):=by kernel_rfl
theorem c96:Try.prog.cellsOf 96=3:=by kernel_rfl
theorem zGf:Cod Try.prog 96 3 zMj (fun x=>i64 x.1∧i64 x.2.1∧i64 x.2.2) where
 cells:=c96
 opn:=by
  intro H enc w base sp hd n cs d p hl h hw
  obtain⟨xs,k,_,hx,_,hxl,hf⟩:=DataW.trod_struct u96 h
  simp only[pI] at hx
  obtain⟨rfl,rfl⟩:=hx
  have hW:∀ x∈DataW.weightsEach Try.prog [3,3,3] (xs.map (·.1)),x≤reachBytes:=fun x hx=>hw x (by simp only[DataW.weights,u96]; exact hx)
  have hxl:xs.length=3:=hxl
  obtain⟨x0,o0,r0⟩:=wJ.field (off:=0) (hf 0 _ rfl) (by omega) hW rfl (by omega)
  obtain⟨x1,o1,r1⟩:=wJ.field (off:=1) (hf 1 _ rfl) (by omega) hW rfl (by omega)
  obtain⟨x2,o2,r2⟩:=wJ.field (off:=2) (hf 2 _ rfl) (by omega) hW rfl (by omega)
  refine⟨(x0,x1,x2),⟨o0,o1,o2⟩,fun j hj=>?_⟩
  match j,hj with
  | 0,_=>exact r0 0 (by omega)
  | 1,_=>exact r1 0 (by omega)
  | 2,_=>exact r2 0 (by omega)
theorem zUw:Try.prog.underlying 101=some (.struct #[⟨"A",96,0,false, "", "",0⟩,⟨"B",96,3,false, "", "",24⟩]):=by kernel_rfl
theorem zYy:Try.prog.cellsOf 101=6:=by kernel_rfl
theorem zRa:Cod Try.prog 101 6 zDm (fun x=>(i64 x.1.1∧i64 x.1.2.1∧i64 x.1.2.2)∧i64 x.2.1∧i64 x.2.2.1∧i64 x.2.2.2) where
 cells:=zYy
 opn:=by
  intro H enc w base sp hd n cs d p hl h hw
  obtain⟨xs,k,_,hx,_,hxl,hf⟩:=DataW.trod_struct zUw h
  simp only[pI] at hx
  obtain⟨rfl,rfl⟩:=hx
  have hW:∀ x∈DataW.weightsEach Try.prog [96,96] (xs.map (·.1)),x≤reachBytes:=fun x hx=>hw x (by simp only[DataW.weights,zUw]; exact hx)
  have hxl:xs.length=2:=hxl
  obtain⟨x0,o0,r0⟩:=zGf.field (off:=0) (hf 0 _ rfl) (by omega) hW rfl (by omega)
  obtain⟨x1,o1,r1⟩:=zGf.field (off:=3) (hf 1 _ rfl) (by omega) hW rfl (by omega)
  refine⟨(x0,x1),⟨o0,o1⟩,fun j hj=>?_⟩
  match j,hj with
  | 0,_=>exact r0 0 (by omega)
  | 1,_=>exact r0 1 (by omega)
  | 2,_=>exact r0 2 (by omega)
  | 3,_=>exact r1 0 (by omega)
  | 4,_=>exact r1 1 (by omega)
  | 5,_=>exact r1 2 (by omega)
theorem zUg:Try.prog.bytesOf 101=48:=by kernel_rfl
theorem u30:Try.prog.underlying 30=some (.slice 101):=by kernel_rfl
theorem c30:Try.prog.cellsOf 30=1:=by kernel_rfl
theorem zJe:Cod Try.prog 30 1 (fun(l:List ((Int×Int×Int)×(Int×Int×Int))) _=>.s false 6 l.length (cLk l)) (fun l=>(∀ x∈l,(i64 x.1.1∧i64 x.1.2.1∧i64 x.1.2.2)∧i64 x.2.1∧i64 x.2.2.1∧i64 x.2.2.2)∧l.length*48≤140737488351232):=(Cod.slice zRa u30 c30 dLk).mono fun l h=>by
 obtain⟨h1,h2⟩:=h
 rw[zUg,reachBytes] at h2
 exact⟨h1,h2⟩
theorem zZm:Try.prog.bytesOf 44=24:=by kernel_rfl
theorem u31:Try.prog.underlying 31=some (.slice 44):=by kernel_rfl
theorem c31:Try.prog.cellsOf 31=1:=by kernel_rfl
theorem zTl:Cod Try.prog 31 1 (fun(l:List (List Nat)) _=>.s false 1 l.length (cT l)) okT:=(Cod.slice zEc u31 c31 []).mono fun l h=>by
 obtain⟨h1,h2⟩:=h
 rw[zZm,reachBytes] at h2
 exact⟨h1,h2⟩
theorem u33:Try.prog.underlying 33=some (.struct #[⟨"Regions",28,0,false, "", "",0⟩,⟨"Tables",29,1,false, "", "",24⟩,⟨"Links",30,2,false, "", "",48⟩,⟨"Instance",31,3,false, "", "",72⟩]):=by kernel_rfl
theorem c33:Try.prog.cellsOf 33=4:=by kernel_rfl
theorem zSm:Cod Try.prog 33 4 zIf (Pln.ok) where
 cells:=c33
 opn:=by
  intro H enc w base sp hd n cs d p hl h hw
  obtain⟨xs,k,_,hx,_,hxl,hf⟩:=DataW.trod_struct u33 h
  simp only[pI] at hx
  obtain⟨rfl,rfl⟩:=hx
  have hW:∀ x∈DataW.weightsEach Try.prog [28,29,30,31] (xs.map (·.1)),x≤reachBytes:=fun x hx=>hw x (by simp only[DataW.weights,u33]; exact hx)
  have hxl:xs.length=4:=hxl
  obtain⟨x0,o0,r0⟩:=zJz.field (off:=0) (hf 0 _ rfl) (by omega) hW rfl (by omega)
  obtain⟨x1,o1,r1⟩:=zIx.field (off:=1) (hf 1 _ rfl) (by omega) hW rfl (by omega)
  obtain⟨x2,o2,r2⟩:=zJe.field (off:=2) (hf 2 _ rfl) (by omega) hW rfl (by omega)
  obtain⟨x3,o3,r3⟩:=zTl.field (off:=3) (hf 3 _ rfl) (by omega) hW rfl (by omega)
  refine⟨⟨x0,x1,x2,x3⟩,⟨o0,o1,o2,o3⟩,fun j hj=>?_⟩
  match j,hj with
  | 0,_=>exact r0 0 (by omega)
  | 1,_=>exact r1 0 (by omega)
  | 2,_=>exact r2 0 (by omega)
  | 3,_=>exact r3 0 (by omega)
end Go.Proofs.Ytlmjdcbhpffanaa
