/- The texts Z80 .. Z93 of this proof, one behind the other. -/
import Derived.Test.YtlmjdcbhpffanaaGreatM3
import Derived.Test.YtlmjdcbhpffanaaGreatM2
/- All faults: the walk. -/
namespace Go.Proofs.YtlmjdcbhpffanaaGreat
open Go.Sx Go.Pl
set_option linter.unusedVariables false
set_option maxRecDepth 100000
theorem zXo(c:Cir)(s:Sht)(so k:Int)(K:List It→St→Prop)(R:SV→List HO→Prop):W (xwp Tryz.prog X K79 [(58,[])] 60 (qK Tryz.f25 [] [⟨[0,1,0,1,1,1,1],[38,37,12,10,5,7,2],[(12,67,1)]⟩,⟨[0,1,0,1,1,1,1,1,1],[51,50,49,14,12,10,5,7,2],[(14,111,3)]⟩,⟨[0,1,1,0,0,1,1,0,0,1,0,1,1,1,1,1,1],[17,18,16,15,51,50,49,14,12,10,5,7,2],[]⟩,⟨[0,1,0,1,1,1,1,1,1,1],[87,86,85,14,12,10,5,7],[]⟩,⟨[0,1,1,0,0,1,1,0,0,1,0,1,1,1,1,1,1,1],[96,95,94,19,87,86,85,14,12,10,5,7],[]⟩,⟨[0,1,0,1,1,1,1,1,1,1,1],[111,110,109,14,10],[]⟩]) [] [.at []] ⟨qR 0 [.v (.int .i64 so),.agg [.v (.int .i64 c.fx),.v (.int .i64 c.ad),.v (.int .i64 c.ins),.x 0 [],.x 1 [],.x 2 [],.x 3 []],.v (.int .i64 k),.agg [.x 4 [],.x 5 [],.x 6 [],.x 7 []]],[.ext false (.s false 7 c.nodes.length (cN c.nodes)),.ext false (.s false 1 c.gates.length (cI c.gates)),.ext false (.s false 2 c.looks.length (cL c.looks)),.ext false (.s false 2 c.eqs.length (cK c.eqs)),.ext false (.s false 1 s.fx.length (cT s.fx)),.ext false (.s false 1 s.ad.length (cT s.ad)),.ext false (.s false 1 s.is.length (cT s.is)),.ext false (.s false 4 s.cp.length (cP s.cp))]⟩ K R)=W ((∀ M:Mem,0+4≤4)∧bif !fE so==(0:Int) then bif !fE so==(0:Int) then R (.tup [.v (Value.slice none 0 0),.v (qA (fE so))]) [] else K [.at [0,1,0,1,1,1,1],.blk 0,.at [1,1,1,1,1]] (St.mk [(38,.v (qA 0)),(37,.v (qA (usN k))),(12,.o 0),(10,.v (Value.pointer none)),(5,.p 1 0),(7,.p 2 0),(2,.v (qA k))] [.rowc 67 1 0 (.lit 1 []),.cells [.v (qA c.1),.v (qA c.2),.v (qA c.3),.x 3 [],.x 4 [],.x 5 [],.x 6 []] 27,.cells [.x 7 [],.x 8 [],.x 9 [],.x 10 []] 42,.ext false (.s false 7 c.4.length (cN c.4)),.ext false (.s false 1 c.5.length (cI c.5)),.ext false (.s false 2 c.6.length (cL c.6)),.ext false (.s false 2 c.7.length (cK c.7)),.ext false (.s false 1 s.1.length (cT s.1)),.ext false (.s false 1 s.2.length (cT s.2)),.ext false (.s false 1 s.3.length (cT s.3)),.ext false (.s false 4 s.4.length (cP s.4))]) else lF c.1 c.2 c.3 c.4.length c.5.length c.6.length c.7.length s.1.length s.2.length s.3.length s.4.length (cN c.4) (cI c.5) (cL c.6) (cK c.7) (cT s.1) (cT s.2) (cT s.3) (cP s.4) fun(c_1:Cir) (s_1:Sht)=>bif !xK c_1 k s_1==(0:Int) then bif !xK c_1 k s_1==(0:Int) then R (.tup [.v (Value.slice none 0 0),.v (qA (xK c_1 k s_1))]) [] else K [.at [0,1,0,1,1,1,1],.blk 0,.at [1,1,1,1,1]] (St.mk [(38,.v (qA 0)),(37,.v (qA (usN k))),(12,.o 0),(10,.v (Value.pointer none)),(5,.p 1 0),(7,.p 2 0),(2,.v (qA k))] [.rowc 67 1 0 (.lit 1 []),.cells [.v (qA c.1),.v (qA c.2),.v (qA c.3),.x 3 [],.x 4 [],.x 5 [],.x 6 []] 27,.cells [.x 7 [],.x 8 [],.x 9 [],.x 10 []] 42,.ext false (.s false 7 c.4.length (cN c.4)),.ext false (.s false 1 c.5.length (cI c.5)),.ext false (.s false 2 c.6.length (cL c.6)),.ext false (.s false 2 c.7.length (cK c.7)),.ext false (.s false 1 s.1.length (cT s.1)),.ext false (.s false 1 s.2.length (cT s.2)),.ext false (.s false 1 s.3.length (cT s.3)),.ext false (.s false 4 s.4.length (cP s.4))]) else ∃(l:List Nd),List.length c.4=List.length l∧IsC c.4.length 7 (cN c.4) (cN l)∧List.length l≤4000000000000∧K [.at [0,1,0,1,1,1,1],.blk 0,.at [1,1,1,1,1]] (St.mk [(38,.v (qA 0)),(37,.v (qA (usN k))),(12,.o 0),(10,.p 1 0),(5,.p 2 0),(7,.p 3 0),(2,.v (qA k))] [.rowc 67 1 0 (.lit 1 []),.cells [.v (qA c.1),.v (qA c.2),.v (qA c.3),.x 4 [],.x 5 [],.x 6 [],.x 7 [],.x 8 [],.x 9 [],.x 10 [],.x 11 [],.v (qA so),.v (qA k),.o 12] 154,.cells [.v (qA c.1),.v (qA c.2),.v (qA c.3),.x 13 [],.x 14 [],.x 15 [],.x 16 []] 27,.cells [.x 17 [],.x 18 [],.x 19 [],.x 20 []] 42,.ext false (.s false 7 c.4.length (cN c.4)),.ext false (.s false 1 c.5.length (cI c.5)),.ext false (.s false 2 c.6.length (cL c.6)),.ext false (.s false 2 c.7.length (cK c.7)),.ext false (.s false 1 s.1.length (cT s.1)),.ext false (.s false 1 s.2.length (cT s.2)),.ext false (.s false 1 s.3.length (cT s.3)),.ext false (.s false 4 s.4.length (cP s.4)),.rowc 156 3 (List.length (qsN [] l)) (.fn (cQ (qsN [] l))),.ext false (.s false 7 c.4.length (cN c.4)),.ext false (.s false 1 c.5.length (cI c.5)),.ext false (.s false 2 c.6.length (cL c.6)),.ext false (.s false 2 c.7.length (cK c.7)),.ext false (.s false 1 s.1.length (cT s.1)),.ext false (.s false 1 s.2.length (cT s.2)),.ext false (.s false 1 s.3.length (cT s.3)),.ext false (.s false 4 s.4.length (cP s.4))])):=by kernel_rfl
theorem fa0(c:Cir)(s:Sht)(so k:Int)(qs:List (Int×Int×Int))(rows:List (List Nat))(n:Nat)(u:Int)(i M:Nat)(K:List It→St→Prop)(R:SV→List HO→Prop):W (xwp Tryz.prog X K79 [] 60 (qK Tryz.f25 [] [⟨[0,1,0,1,1,1,1],[38,37,12,10,5,7,2],[(12,67,1)]⟩,⟨[0,1,0,1,1,1,1,1,1],[51,50,49,14,12,10,5,7,2],[(14,111,3)]⟩,⟨[0,1,1,0,0,1,1,0,0,1,0,1,1,1,1,1,1],[17,18,16,15,51,50,49,14,12,10,5,7,2],[]⟩,⟨[0,1,0,1,1,1,1,1,1,1],[87,86,85,14,12,10,5,7],[]⟩,⟨[0,1,1,0,0,1,1,0,0,1,0,1,1,1,1,1,1,1],[96,95,94,19,87,86,85,14,12,10,5,7],[]⟩,⟨[0,1,0,1,1,1,1,1,1,1,1],[111,110,109,14,10],[]⟩]) [] (.at [0,0,1,0,1,1,1,1]::.rnd [0,0,1,0,1,1,1,1] M::[.blk 0,.at [1,1,1,1,1]]) (St.mk [(38,.v (qA (i:Int))),(37,.v (qA u)),(12,.o 0),(10,.p 1 0),(5,.p 2 0),(7,.p 3 0),(2,.v (qA k))] [.rowc 67 1 n (.fn (cT rows)),.cells [.v (qA c.1),.v (qA c.2),.v (qA c.3),.x 4 [],.x 5 [],.x 6 [],.x 7 [],.x 8 [],.x 9 [],.x 10 [],.x 11 [],.v (qA so),.v (qA k),.o 12] 154,.cells [.v (qA c.1),.v (qA c.2),.v (qA c.3),.x 13 [],.x 14 [],.x 15 [],.x 16 []] 27,.cells [.x 17 [],.x 18 [],.x 19 [],.x 20 []] 42,.ext false (.s false 7 c.4.length (cN c.4)),.ext false (.s false 1 c.5.length (cI c.5)),.ext false (.s false 2 c.6.length (cL c.6)),.ext false (.s false 2 c.7.length (cK c.7)),.ext false (.s false 1 s.1.length (cT s.1)),.ext false (.s false 1 s.2.length (cT s.2)),.ext false (.s false 1 s.3.length (cT s.3)),.ext false (.s false 4 s.4.length (cP s.4)),.rowc 156 3 (List.length (qs)) (.fn (cQ (qs))),.ext false (.s false 7 c.4.length (cN c.4)),.ext false (.s false 1 c.5.length (cI c.5)),.ext false (.s false 2 c.6.length (cL c.6)),.ext false (.s false 2 c.7.length (cK c.7)),.ext false (.s false 1 s.1.length (cT s.1)),.ext false (.s false 1 s.2.length (cT s.2)),.ext false (.s false 1 s.3.length (cT s.3)),.ext false (.s false 4 s.4.length (cP s.4))]) K R)=W (bif decide ((↑i:Int)<u) then lFk (lc 14 [.v (qA c.1),.v (qA c.2),.v (qA c.3),.s false 7 c.4.length (cN c.4),.s false 1 c.5.length (cI c.5),.s false 2 c.6.length (cL c.6),.s false 2 c.7.length (cK c.7),.s false 1 s.1.length (cT s.1),.s false 1 s.2.length (cT s.2),.s false 1 s.3.length (cT s.3),.s false 4 s.4.length (cP s.4),.v (qA so),.v (qA k),.s false 3 qs.length (cQ qs)]) fun(c_1:Cir) (s_1:Sht) (so_1 k_1:Int) (qs_1:List (Int×Int×Int))=>(∀ M:Mem,(n+1)*24≤140737488355328∧n+1≤140737488355328)∧K [.rnd [0,0,1,0,1,1,1,1] M,.blk 0,.at [1,1,1,1,1]] (St.mk [(38,.v (qA (IntKind.wrap .i64 ((↑i:Int)+(1:Int))))),(37,.v (qA u)),(12,.o 0),(10,.p 1 0),(5,.p 2 0),(7,.p 3 0),(2,.v (qA k))] [.rowc 67 1 (n+1) (.app n (.fn (cT rows)) (.lit 1 [.s false 4 (List.length (zT c_1 s_1 so_1 k_1 qs_1 (↑i:Int))) (cE (zT c_1 s_1 so_1 k_1 qs_1 (↑i:Int)))])),.cells [.v (qA c.1),.v (qA c.2),.v (qA c.3),.x 4 [],.x 5 [],.x 6 [],.x 7 [],.x 8 [],.x 9 [],.x 10 [],.x 11 [],.v (qA so),.v (qA k),.o 12] 154,.cells [.v (qA c.1),.v (qA c.2),.v (qA c.3),.x 13 [],.x 14 [],.x 15 [],.x 16 []] 27,.cells [.x 17 [],.x 18 [],.x 19 [],.x 20 []] 42,.ext false (.s false 7 c.4.length (cN c.4)),.ext false (.s false 1 c.5.length (cI c.5)),.ext false (.s false 2 c.6.length (cL c.6)),.ext false (.s false 2 c.7.length (cK c.7)),.ext false (.s false 1 s.1.length (cT s.1)),.ext false (.s false 1 s.2.length (cT s.2)),.ext false (.s false 1 s.3.length (cT s.3)),.ext false (.s false 4 s.4.length (cP s.4)),.rowc 156 3 qs.length (.fn (cQ qs)),.ext false (.s false 7 c.4.length (cN c.4)),.ext false (.s false 1 c.5.length (cI c.5)),.ext false (.s false 2 c.6.length (cL c.6)),.ext false (.s false 2 c.7.length (cK c.7)),.ext false (.s false 1 s.1.length (cT s.1)),.ext false (.s false 1 s.2.length (cT s.2)),.ext false (.s false 1 s.3.length (cT s.3)),.ext false (.s false 4 s.4.length (cP s.4))]) else K [.at [0,1,0,1,1,1,1,1,1],.blk 2,.at [1,1,1,1,1,1,1]] (St.mk [(51,.v (qA 0)),(50,.v (qA (↑c.5.length:Int))),(49,.x 0 []),(14,.o 1),(12,.o 2),(10,.p 3 0),(5,.p 4 0),(7,.p 5 0),(2,.v (qA k))] [.ext false (.s false 1 c.5.length (cI c.5)),.rowc 111 3 0 (.lit 1 []),.rowc 67 1 n (.fn (cT rows)),.cells [.v (qA c.1),.v (qA c.2),.v (qA c.3),.x 6 [],.x 7 [],.x 8 [],.x 9 [],.x 10 [],.x 11 [],.x 12 [],.x 13 [],.v (qA so),.v (qA k),.o 14] 154,.cells [.v (qA c.1),.v (qA c.2),.v (qA c.3),.x 15 [],.x 0 [],.x 16 [],.x 17 []] 27,.cells [.x 18 [],.x 19 [],.x 20 [],.x 21 []] 42,.ext false (.s false 7 c.4.length (cN c.4)),.ext false (.s false 1 c.5.length (cI c.5)),.ext false (.s false 2 c.6.length (cL c.6)),.ext false (.s false 2 c.7.length (cK c.7)),.ext false (.s false 1 s.1.length (cT s.1)),.ext false (.s false 1 s.2.length (cT s.2)),.ext false (.s false 1 s.3.length (cT s.3)),.ext false (.s false 4 s.4.length (cP s.4)),.rowc 156 3 qs.length (.fn (cQ qs)),.ext false (.s false 7 c.4.length (cN c.4)),.ext false (.s false 2 c.6.length (cL c.6)),.ext false (.s false 2 c.7.length (cK c.7)),.ext false (.s false 1 s.1.length (cT s.1)),.ext false (.s false 1 s.2.length (cT s.2)),.ext false (.s false 1 s.3.length (cT s.3)),.ext false (.s false 4 s.4.length (cP s.4))])):=by kernel_rfl
theorem fa1(c:Cir)(s:Sht)(so k:Int)(qs:List (Int×Int×Int))(rows:List (List Nat))(n:Nat)(os:List (Int×Int×Int))(m:Nat)(i M:Nat)(K:List It→St→Prop)(R:SV→List HO→Prop):W (xwp Tryz.prog X K79 [] 60 (qK Tryz.f25 [] [⟨[0,1,0,1,1,1,1],[38,37,12,10,5,7,2],[(12,67,1)]⟩,⟨[0,1,0,1,1,1,1,1,1],[51,50,49,14,12,10,5,7,2],[(14,111,3)]⟩,⟨[0,1,1,0,0,1,1,0,0,1,0,1,1,1,1,1,1],[17,18,16,15,51,50,49,14,12,10,5,7,2],[]⟩,⟨[0,1,0,1,1,1,1,1,1,1],[87,86,85,14,12,10,5,7],[]⟩,⟨[0,1,1,0,0,1,1,0,0,1,0,1,1,1,1,1,1,1],[96,95,94,19,87,86,85,14,12,10,5,7],[]⟩,⟨[0,1,0,1,1,1,1,1,1,1,1],[111,110,109,14,10],[]⟩]) [] (.at [0,0,1,0,1,1,1,1,1,1]::.rnd [0,0,1,0,1,1,1,1,1,1] M::[.blk 2,.at [1,1,1,1,1,1,1]]) (St.mk [(51,.v (qA (i:Int))),(50,.v (qA (↑c.5.length:Int))),(49,.x 0 []),(14,.o 1),(12,.x 2 []),(10,.p 3 0),(5,.p 4 0),(7,.p 5 0),(2,.v (qA k))] [.ext false (.s false 1 c.5.length (cI c.5)),.rowc 111 3 m (.fn (cQ os)),.ext false (.s false 1 n (cT rows)),.cells [.v (qA c.1),.v (qA c.2),.v (qA c.3),.x 6 [],.x 7 [],.x 8 [],.x 9 [],.x 10 [],.x 11 [],.x 12 [],.x 13 [],.v (qA so),.v (qA k),.o 14] 154,.cells [.v (qA c.1),.v (qA c.2),.v (qA c.3),.x 15 [],.x 0 [],.x 16 [],.x 17 []] 27,.cells [.x 18 [],.x 19 [],.x 20 [],.x 21 []] 42,.ext false (.s false 7 c.4.length (cN c.4)),.ext false (.s false 1 c.5.length (cI c.5)),.ext false (.s false 2 c.6.length (cL c.6)),.ext false (.s false 2 c.7.length (cK c.7)),.ext false (.s false 1 s.1.length (cT s.1)),.ext false (.s false 1 s.2.length (cT s.2)),.ext false (.s false 1 s.3.length (cT s.3)),.ext false (.s false 4 s.4.length (cP s.4)),.rowc 156 3 qs.length (.fn (cQ qs)),.ext false (.s false 7 c.4.length (cN c.4)),.ext false (.s false 2 c.6.length (cL c.6)),.ext false (.s false 2 c.7.length (cK c.7)),.ext false (.s false 1 s.1.length (cT s.1)),.ext false (.s false 1 s.2.length (cT s.2)),.ext false (.s false 1 s.3.length (cT s.3)),.ext false (.s false 4 s.4.length (cP s.4))]) K R)=W (bif decide ((↑i:Int)<(↑c.5.length:Int)) then(∀ M:Mem,(0:Int)≤(↑i:Int)∧(↑i:Int)<(↑c.5.length:Int))∧(∀ M:Mem,i<List.length c.5)∧lC c.1 c.2 c.3 c.4.length c.5.length c.6.length c.7.length (cN c.4) (cI c.5) (cL c.6) (cK c.7) fun(c_1:Cir)=>K [.at [0,1,1,0,0,1,1,0,0,1,0,1,1,1,1,1,1],.blk 4,.blk 3,.at [1,1,1,0,0,1,0,1,1,1,1,1,1],.rnd [0,0,1,0,1,1,1,1,1,1] M,.blk 2,.at [1,1,1,1,1,1,1]] (St.mk [(17,.v (qA (jG c_1 k (gI c.5 i)).1)),(18,.v (qA (jG c_1 k (gI c.5 i)).2)),(16,.v (qA (gI c.5 i))),(15,.v (qA (↑i:Int))),(51,.v (qA (↑i:Int))),(50,.v (qA (↑c.5.length:Int))),(49,.x 0 []),(14,.o 1),(12,.x 2 []),(10,.p 3 0),(5,.p 4 0),(7,.p 5 0),(2,.v (qA k))] [.ext false (.s false 1 c.5.length (cI c.5)),.rowc 111 3 m (.fn (cQ os)),.ext false (.s false 1 n (cT rows)),.cells [.v (qA c.1),.v (qA c.2),.v (qA c.3),.x 6 [],.x 7 [],.x 8 [],.x 9 [],.x 10 [],.x 11 [],.x 12 [],.x 13 [],.v (qA so),.v (qA k),.o 14] 154,.cells [.v (qA c.1),.v (qA c.2),.v (qA c.3),.x 15 [],.x 0 [],.x 16 [],.x 17 []] 27,.cells [.x 18 [],.x 19 [],.x 20 [],.x 21 []] 42,.ext false (.s false 7 c.4.length (cN c.4)),.ext false (.s false 1 c.5.length (cI c.5)),.ext false (.s false 2 c.6.length (cL c.6)),.ext false (.s false 2 c.7.length (cK c.7)),.ext false (.s false 1 s.1.length (cT s.1)),.ext false (.s false 1 s.2.length (cT s.2)),.ext false (.s false 1 s.3.length (cT s.3)),.ext false (.s false 4 s.4.length (cP s.4)),.rowc 156 3 qs.length (.fn (cQ qs)),.ext false (.s false 7 c.4.length (cN c.4)),.ext false (.s false 2 c.6.length (cL c.6)),.ext false (.s false 2 c.7.length (cK c.7)),.ext false (.s false 1 s.1.length (cT s.1)),.ext false (.s false 1 s.2.length (cT s.2)),.ext false (.s false 1 s.3.length (cT s.3)),.ext false (.s false 4 s.4.length (cP s.4))]) else K [.at [0,1,0,1,1,1,1,1,1,1],.blk 6,.at [1,1,1,1,1,1,1,1]] (St.mk [(87,.v (qA 0)),(86,.v (qA (↑c.6.length:Int))),(85,.x 0 []),(14,.o 1),(12,.x 2 []),(10,.p 3 0),(5,.p 4 0),(7,.p 5 0)] [.ext false (.s false 2 c.6.length (cL c.6)),.rowc 111 3 m (.fn (cQ os)),.ext false (.s false 1 n (cT rows)),.cells [.v (qA c.1),.v (qA c.2),.v (qA c.3),.x 6 [],.x 7 [],.x 8 [],.x 9 [],.x 10 [],.x 11 [],.x 12 [],.x 13 [],.v (qA so),.v (qA k),.o 14] 154,.cells [.v (qA c.1),.v (qA c.2),.v (qA c.3),.x 15 [],.x 16 [],.x 0 [],.x 17 []] 27,.cells [.x 18 [],.x 19 [],.x 20 [],.x 21 []] 42,.ext false (.s false 7 c.4.length (cN c.4)),.ext false (.s false 1 c.5.length (cI c.5)),.ext false (.s false 2 c.6.length (cL c.6)),.ext false (.s false 2 c.7.length (cK c.7)),.ext false (.s false 1 s.1.length (cT s.1)),.ext false (.s false 1 s.2.length (cT s.2)),.ext false (.s false 1 s.3.length (cT s.3)),.ext false (.s false 4 s.4.length (cP s.4)),.rowc 156 3 qs.length (.fn (cQ qs)),.ext false (.s false 7 c.4.length (cN c.4)),.ext false (.s false 1 c.5.length (cI c.5)),.ext false (.s false 2 c.7.length (cK c.7)),.ext false (.s false 1 s.1.length (cT s.1)),.ext false (.s false 1 s.2.length (cT s.2)),.ext false (.s false 1 s.3.length (cT s.3)),.ext false (.s false 4 s.4.length (cP s.4))])):=by kernel_rfl
theorem fa2(c:Cir)(s:Sht)(so k:Int)(qs:List (Int×Int×Int))(rows:List (List Nat))(n:Nat)(os:List (Int×Int×Int))(m:Nat)(i M2 M:Nat)(r to:Int)(K:List It→St→Prop)(R:SV→List HO→Prop):W (xwp Tryz.prog X K79 [] 60 (qK Tryz.f25 [] [⟨[0,1,0,1,1,1,1],[38,37,12,10,5,7,2],[(12,67,1)]⟩,⟨[0,1,0,1,1,1,1,1,1],[51,50,49,14,12,10,5,7,2],[(14,111,3)]⟩,⟨[0,1,1,0,0,1,1,0,0,1,0,1,1,1,1,1,1],[17,18,16,15,51,50,49,14,12,10,5,7,2],[]⟩,⟨[0,1,0,1,1,1,1,1,1,1],[87,86,85,14,12,10,5,7],[]⟩,⟨[0,1,1,0,0,1,1,0,0,1,0,1,1,1,1,1,1,1],[96,95,94,19,87,86,85,14,12,10,5,7],[]⟩,⟨[0,1,0,1,1,1,1,1,1,1,1],[111,110,109,14,10],[]⟩]) [] (.at [0,0,1,1,0,0,1,1,0,0,1,0,1,1,1,1,1,1]::.rnd [0,0,1,1,0,0,1,1,0,0,1,0,1,1,1,1,1,1] M::[.blk 4,.blk 3,.at [1,1,1,0,0,1,0,1,1,1,1,1,1],.rnd [0,0,1,0,1,1,1,1,1,1] M2,.blk 2,.at [1,1,1,1,1,1,1]]) (St.mk [(17,.v (qA r)),(18,.v (qA to)),(16,.v (qA (gI c.5 i))),(15,.v (qA (↑i:Int))),(51,.v (qA (↑i:Int))),(50,.v (qA (↑c.5.length:Int))),(49,.x 0 []),(14,.o 1),(12,.x 2 []),(10,.p 3 0),(5,.p 4 0),(7,.p 5 0),(2,.v (qA k))] [.ext false (.s false 1 c.5.length (cI c.5)),.rowc 111 3 m (.fn (cQ os)),.ext false (.s false 1 n (cT rows)),.cells [.v (qA c.1),.v (qA c.2),.v (qA c.3),.x 6 [],.x 7 [],.x 8 [],.x 9 [],.x 10 [],.x 11 [],.x 12 [],.x 13 [],.v (qA so),.v (qA k),.o 14] 154,.cells [.v (qA c.1),.v (qA c.2),.v (qA c.3),.x 15 [],.x 0 [],.x 16 [],.x 17 []] 27,.cells [.x 18 [],.x 19 [],.x 20 [],.x 21 []] 42,.ext false (.s false 7 c.4.length (cN c.4)),.ext false (.s false 1 c.5.length (cI c.5)),.ext false (.s false 2 c.6.length (cL c.6)),.ext false (.s false 2 c.7.length (cK c.7)),.ext false (.s false 1 s.1.length (cT s.1)),.ext false (.s false 1 s.2.length (cT s.2)),.ext false (.s false 1 s.3.length (cT s.3)),.ext false (.s false 4 s.4.length (cP s.4)),.rowc 156 3 qs.length (.fn (cQ qs)),.ext false (.s false 7 c.4.length (cN c.4)),.ext false (.s false 2 c.6.length (cL c.6)),.ext false (.s false 2 c.7.length (cK c.7)),.ext false (.s false 1 s.1.length (cT s.1)),.ext false (.s false 1 s.2.length (cT s.2)),.ext false (.s false 1 s.3.length (cT s.3)),.ext false (.s false 4 s.4.length (cP s.4))]) K R)=W (bif decide (r<to) then(∀ M:Mem,(0:Int)≤r∧r<(↑n:Int))∧(∀ M:Mem,Int.toNat r<n)∧(∀ M:Mem,Int.toNat r<n)∧(∀ M:Mem,(0:Int)≤gI c.5 i∧gI c.5 i<(↑(List.length (gT rows (Int.toNat r))):Int))∧(∀ M:Mem,Int.toNat r<n)∧(∀ M:Mem,Int.toNat (gI c.5 i)<List.length (gT rows (Int.toNat r)))∧bif !decide ((eI (gE (gT rows (Int.toNat r)) (Int.toNat (gI c.5 i))))=[(0:Int),(0:Int),(0:Int),(0:Int)]) then(∀ M:Mem,(m+1)*24≤140737488355328∧m+1≤140737488355328)∧K [.rnd [0,0,1,1,0,0,1,1,0,0,1,0,1,1,1,1,1,1] M,.blk 4,.blk 3,.at [1,1,1,0,0,1,0,1,1,1,1,1,1],.rnd [0,0,1,0,1,1,1,1,1,1] M2,.blk 2,.at [1,1,1,1,1,1,1]] (St.mk [(17,.v (qA (IntKind.wrap .i64 (r+(1:Int))))),(18,.v (qA to)),(16,.v (qA (gI c.5 i))),(15,.v (qA (↑i:Int))),(51,.v (qA (↑i:Int))),(50,.v (qA (↑c.5.length:Int))),(49,.x 0 []),(14,.o 1),(12,.x 2 []),(10,.p 3 0),(5,.p 4 0),(7,.p 5 0),(2,.v (qA k))] [.ext false (.s false 1 c.5.length (cI c.5)),.rowc 111 3 (m+1) (.app m (.fn (cQ os)) (.lit 3 [.v (qA 1),.v (qA (↑i:Int)),.v (qA r)])),.ext false (.s false 1 n (cT rows)),.cells [.v (qA c.1),.v (qA c.2),.v (qA c.3),.x 6 [],.x 7 [],.x 8 [],.x 9 [],.x 10 [],.x 11 [],.x 12 [],.x 13 [],.v (qA so),.v (qA k),.o 14] 154,.cells [.v (qA c.1),.v (qA c.2),.v (qA c.3),.x 15 [],.x 0 [],.x 16 [],.x 17 []] 27,.cells [.x 18 [],.x 19 [],.x 20 [],.x 21 []] 42,.ext false (.s false 7 c.4.length (cN c.4)),.ext false (.s false 1 c.5.length (cI c.5)),.ext false (.s false 2 c.6.length (cL c.6)),.ext false (.s false 2 c.7.length (cK c.7)),.ext false (.s false 1 s.1.length (cT s.1)),.ext false (.s false 1 s.2.length (cT s.2)),.ext false (.s false 1 s.3.length (cT s.3)),.ext false (.s false 4 s.4.length (cP s.4)),.rowc 156 3 qs.length (.fn (cQ qs)),.ext false (.s false 7 c.4.length (cN c.4)),.ext false (.s false 2 c.6.length (cL c.6)),.ext false (.s false 2 c.7.length (cK c.7)),.ext false (.s false 1 s.1.length (cT s.1)),.ext false (.s false 1 s.2.length (cT s.2)),.ext false (.s false 1 s.3.length (cT s.3)),.ext false (.s false 4 s.4.length (cP s.4))]) else K [.rnd [0,0,1,1,0,0,1,1,0,0,1,0,1,1,1,1,1,1] M,.blk 4,.blk 3,.at [1,1,1,0,0,1,0,1,1,1,1,1,1],.rnd [0,0,1,0,1,1,1,1,1,1] M2,.blk 2,.at [1,1,1,1,1,1,1]] (St.mk [(17,.v (qA (IntKind.wrap .i64 (r+(1:Int))))),(18,.v (qA to)),(16,.v (qA (gI c.5 i))),(15,.v (qA (↑i:Int))),(51,.v (qA (↑i:Int))),(50,.v (qA (↑c.5.length:Int))),(49,.x 0 []),(14,.o 1),(12,.x 2 []),(10,.p 3 0),(5,.p 4 0),(7,.p 5 0),(2,.v (qA k))] [.ext false (.s false 1 c.5.length (cI c.5)),.rowc 111 3 m (.fn (cQ os)),.ext false (.s false 1 n (cT rows)),.cells [.v (qA c.1),.v (qA c.2),.v (qA c.3),.x 6 [],.x 7 [],.x 8 [],.x 9 [],.x 10 [],.x 11 [],.x 12 [],.x 13 [],.v (qA so),.v (qA k),.o 14] 154,.cells [.v (qA c.1),.v (qA c.2),.v (qA c.3),.x 15 [],.x 0 [],.x 16 [],.x 17 []] 27,.cells [.x 18 [],.x 19 [],.x 20 [],.x 21 []] 42,.ext false (.s false 7 c.4.length (cN c.4)),.ext false (.s false 1 c.5.length (cI c.5)),.ext false (.s false 2 c.6.length (cL c.6)),.ext false (.s false 2 c.7.length (cK c.7)),.ext false (.s false 1 s.1.length (cT s.1)),.ext false (.s false 1 s.2.length (cT s.2)),.ext false (.s false 1 s.3.length (cT s.3)),.ext false (.s false 4 s.4.length (cP s.4)),.rowc 156 3 qs.length (.fn (cQ qs)),.ext false (.s false 7 c.4.length (cN c.4)),.ext false (.s false 2 c.6.length (cL c.6)),.ext false (.s false 2 c.7.length (cK c.7)),.ext false (.s false 1 s.1.length (cT s.1)),.ext false (.s false 1 s.2.length (cT s.2)),.ext false (.s false 1 s.3.length (cT s.3)),.ext false (.s false 4 s.4.length (cP s.4))]) else K [.rnd [0,0,1,0,1,1,1,1,1,1] M2,.blk 2,.at [1,1,1,1,1,1,1]] (St.mk [(51,.v (qA (IntKind.wrap .i64 ((↑i:Int)+(1:Int))))),(50,.v (qA (↑c.5.length:Int))),(49,.x 0 []),(14,.o 1),(12,.x 2 []),(10,.p 3 0),(5,.p 4 0),(7,.p 5 0),(2,.v (qA k))] [.ext false (.s false 1 c.5.length (cI c.5)),.rowc 111 3 m (.fn (cQ os)),.ext false (.s false 1 n (cT rows)),.cells [.v (qA c.1),.v (qA c.2),.v (qA c.3),.x 6 [],.x 7 [],.x 8 [],.x 9 [],.x 10 [],.x 11 [],.x 12 [],.x 13 [],.v (qA so),.v (qA k),.o 14] 154,.cells [.v (qA c.1),.v (qA c.2),.v (qA c.3),.x 15 [],.x 0 [],.x 16 [],.x 17 []] 27,.cells [.x 18 [],.x 19 [],.x 20 [],.x 21 []] 42,.ext false (.s false 7 c.4.length (cN c.4)),.ext false (.s false 1 c.5.length (cI c.5)),.ext false (.s false 2 c.6.length (cL c.6)),.ext false (.s false 2 c.7.length (cK c.7)),.ext false (.s false 1 s.1.length (cT s.1)),.ext false (.s false 1 s.2.length (cT s.2)),.ext false (.s false 1 s.3.length (cT s.3)),.ext false (.s false 4 s.4.length (cP s.4)),.rowc 156 3 qs.length (.fn (cQ qs)),.ext false (.s false 7 c.4.length (cN c.4)),.ext false (.s false 2 c.6.length (cL c.6)),.ext false (.s false 2 c.7.length (cK c.7)),.ext false (.s false 1 s.1.length (cT s.1)),.ext false (.s false 1 s.2.length (cT s.2)),.ext false (.s false 1 s.3.length (cT s.3)),.ext false (.s false 4 s.4.length (cP s.4))])):=by kernel_rfl
theorem fa3(c:Cir)(s:Sht)(so k:Int)(qs:List (Int×Int×Int))(rows:List (List Nat))(n:Nat)(os:List (Int×Int×Int))(m:Nat)(i M:Nat)(K:List It→St→Prop)(R:SV→List HO→Prop):W (xwp Tryz.prog X K79 [] 60 (qK Tryz.f25 [] [⟨[0,1,0,1,1,1,1],[38,37,12,10,5,7,2],[(12,67,1)]⟩,⟨[0,1,0,1,1,1,1,1,1],[51,50,49,14,12,10,5,7,2],[(14,111,3)]⟩,⟨[0,1,1,0,0,1,1,0,0,1,0,1,1,1,1,1,1],[17,18,16,15,51,50,49,14,12,10,5,7,2],[]⟩,⟨[0,1,0,1,1,1,1,1,1,1],[87,86,85,14,12,10,5,7],[]⟩,⟨[0,1,1,0,0,1,1,0,0,1,0,1,1,1,1,1,1,1],[96,95,94,19,87,86,85,14,12,10,5,7],[]⟩,⟨[0,1,0,1,1,1,1,1,1,1,1],[111,110,109,14,10],[]⟩]) [] (.at [0,0,1,0,1,1,1,1,1,1,1]::.rnd [0,0,1,0,1,1,1,1,1,1,1] M::[.blk 6,.at [1,1,1,1,1,1,1,1]]) (St.mk [(87,.v (qA (i:Int))),(86,.v (qA (↑c.6.length:Int))),(85,.x 0 []),(14,.o 1),(12,.x 2 []),(10,.p 3 0),(5,.p 4 0),(7,.p 5 0)] [.ext false (.s false 2 c.6.length (cL c.6)),.rowc 111 3 m (.fn (cQ os)),.ext false (.s false 1 n (cT rows)),.cells [.v (qA c.1),.v (qA c.2),.v (qA c.3),.x 6 [],.x 7 [],.x 8 [],.x 9 [],.x 10 [],.x 11 [],.x 12 [],.x 13 [],.v (qA so),.v (qA k),.o 14] 154,.cells [.v (qA c.1),.v (qA c.2),.v (qA c.3),.x 15 [],.x 16 [],.x 0 [],.x 17 []] 27,.cells [.x 18 [],.x 19 [],.x 20 [],.x 21 []] 42,.ext false (.s false 7 c.4.length (cN c.4)),.ext false (.s false 1 c.5.length (cI c.5)),.ext false (.s false 2 c.6.length (cL c.6)),.ext false (.s false 2 c.7.length (cK c.7)),.ext false (.s false 1 s.1.length (cT s.1)),.ext false (.s false 1 s.2.length (cT s.2)),.ext false (.s false 1 s.3.length (cT s.3)),.ext false (.s false 4 s.4.length (cP s.4)),.rowc 156 3 qs.length (.fn (cQ qs)),.ext false (.s false 7 c.4.length (cN c.4)),.ext false (.s false 1 c.5.length (cI c.5)),.ext false (.s false 2 c.7.length (cK c.7)),.ext false (.s false 1 s.1.length (cT s.1)),.ext false (.s false 1 s.2.length (cT s.2)),.ext false (.s false 1 s.3.length (cT s.3)),.ext false (.s false 4 s.4.length (cP s.4))]) K R)=W (bif decide ((↑i:Int)<(↑c.6.length:Int)) then(∀ M:Mem,(0:Int)≤(↑i:Int)∧(↑i:Int)<(↑c.6.length:Int))∧(∀ M:Mem,i<List.length c.6)∧(∀ M:Mem,0+2≤2)∧(∀ M:Mem,i<List.length c.6)∧(∀ M:Mem,i<List.length c.6)∧lLo n (List.length (gL c.6 i).1) (List.length (gL c.6 i).2) (cT rows) (cI (gL c.6 i).1) (cI (gL c.6 i).2) fun(rows_1:List (List Nat)) (ins tabs:List Int)=>K [.at [0,1,1,0,0,1,1,0,0,1,0,1,1,1,1,1,1,1],.blk 8,.blk 7,.at [1,1,1,0,0,1,0,1,1,1,1,1,1,1],.rnd [0,0,1,0,1,1,1,1,1,1,1] M,.blk 6,.at [1,1,1,1,1,1,1,1]] (St.mk [(96,.v (qA 0)),(95,.v (qA (↑(List.length (xX rows_1 ins tabs)):Int))),(94,.o 0),(19,.v (qA (↑i:Int))),(87,.v (qA (↑i:Int))),(86,.v (qA (↑c.6.length:Int))),(85,.x 1 []),(14,.o 2),(12,.x 3 []),(10,.p 4 0),(5,.p 5 0),(7,.p 6 0)] [.rowc 3 1 (List.length (xX rows_1 ins tabs)) (.fn (cI (xX rows_1 ins tabs))),.ext false (.s false 2 c.6.length (cL c.6)),.rowc 111 3 m (.fn (cQ os)),.ext false (.s false 1 n (cT rows)),.cells [.v (qA c.1),.v (qA c.2),.v (qA c.3),.x 7 [],.x 8 [],.x 9 [],.x 10 [],.x 11 [],.x 12 [],.x 13 [],.x 14 [],.v (qA so),.v (qA k),.o 15] 154,.cells [.v (qA c.1),.v (qA c.2),.v (qA c.3),.x 16 [],.x 17 [],.x 1 [],.x 18 []] 27,.cells [.x 19 [],.x 20 [],.x 21 [],.x 22 []] 42,.ext false (.s false 7 c.4.length (cN c.4)),.ext false (.s false 1 c.5.length (cI c.5)),.ext false (.s false 2 c.6.length (cL c.6)),.ext false (.s false 2 c.7.length (cK c.7)),.ext false (.s false 1 s.1.length (cT s.1)),.ext false (.s false 1 s.2.length (cT s.2)),.ext false (.s false 1 s.3.length (cT s.3)),.ext false (.s false 4 s.4.length (cP s.4)),.rowc 156 3 qs.length (.fn (cQ qs)),.ext false (.s false 7 c.4.length (cN c.4)),.ext false (.s false 1 c.5.length (cI c.5)),.ext false (.s false 2 c.7.length (cK c.7)),.ext false (.s false 1 s.1.length (cT s.1)),.ext false (.s false 1 s.2.length (cT s.2)),.ext false (.s false 1 s.3.length (cT s.3)),.ext false (.s false 4 s.4.length (cP s.4))]) else K [.at [0,1,0,1,1,1,1,1,1,1,1],.blk 10,.at [1,1,1,1,1,1,1,1,1]] (St.mk [(111,.v (qA 0)),(110,.v (qA (↑s.4.length:Int))),(109,.x 0 []),(14,.o 1),(10,.p 2 0)] [.ext false (.s false 4 s.4.length (cP s.4)),.rowc 111 3 m (.fn (cQ os)),.cells [.v (qA c.1),.v (qA c.2),.v (qA c.3),.x 3 [],.x 4 [],.x 5 [],.x 6 [],.x 7 [],.x 8 [],.x 9 [],.x 10 [],.v (qA so),.v (qA k),.o 11] 154,.ext false (.s false 7 c.4.length (cN c.4)),.ext false (.s false 1 c.5.length (cI c.5)),.ext false (.s false 2 c.6.length (cL c.6)),.ext false (.s false 2 c.7.length (cK c.7)),.ext false (.s false 1 s.1.length (cT s.1)),.ext false (.s false 1 s.2.length (cT s.2)),.ext false (.s false 1 s.3.length (cT s.3)),.ext false (.s false 4 s.4.length (cP s.4)),.rowc 156 3 qs.length (.fn (cQ qs))])):=by kernel_rfl
theorem fa4(c:Cir)(s:Sht)(so k:Int)(qs:List (Int×Int×Int))(rows:List (List Nat))(n:Nat)(os:List (Int×Int×Int))(m:Nat)(ls:List Int)(i j M2 M:Nat)(K:List It→St→Prop)(R:SV→List HO→Prop):W (xwp Tryz.prog X K79 [] 60 (qK Tryz.f25 [] [⟨[0,1,0,1,1,1,1],[38,37,12,10,5,7,2],[(12,67,1)]⟩,⟨[0,1,0,1,1,1,1,1,1],[51,50,49,14,12,10,5,7,2],[(14,111,3)]⟩,⟨[0,1,1,0,0,1,1,0,0,1,0,1,1,1,1,1,1],[17,18,16,15,51,50,49,14,12,10,5,7,2],[]⟩,⟨[0,1,0,1,1,1,1,1,1,1],[87,86,85,14,12,10,5,7],[]⟩,⟨[0,1,1,0,0,1,1,0,0,1,0,1,1,1,1,1,1,1],[96,95,94,19,87,86,85,14,12,10,5,7],[]⟩,⟨[0,1,0,1,1,1,1,1,1,1,1],[111,110,109,14,10],[]⟩]) [] (.at [0,0,1,1,0,0,1,1,0,0,1,0,1,1,1,1,1,1,1]::.rnd [0,0,1,1,0,0,1,1,0,0,1,0,1,1,1,1,1,1,1] M::[.blk 8,.blk 7,.at [1,1,1,0,0,1,0,1,1,1,1,1,1,1],.rnd [0,0,1,0,1,1,1,1,1,1,1] M2,.blk 6,.at [1,1,1,1,1,1,1,1]]) (St.mk [(96,.v (qA (j:Int))),(95,.v (qA (↑(List.length (ls)):Int))),(94,.o 0),(19,.v (qA (↑i:Int))),(87,.v (qA (↑i:Int))),(86,.v (qA (↑c.6.length:Int))),(85,.x 1 []),(14,.o 2),(12,.x 3 []),(10,.p 4 0),(5,.p 5 0),(7,.p 6 0)] [.rowc 3 1 (List.length (ls)) (.fn (cI (ls))),.ext false (.s false 2 c.6.length (cL c.6)),.rowc 111 3 m (.fn (cQ os)),.ext false (.s false 1 n (cT rows)),.cells [.v (qA c.1),.v (qA c.2),.v (qA c.3),.x 7 [],.x 8 [],.x 9 [],.x 10 [],.x 11 [],.x 12 [],.x 13 [],.x 14 [],.v (qA so),.v (qA k),.o 15] 154,.cells [.v (qA c.1),.v (qA c.2),.v (qA c.3),.x 16 [],.x 17 [],.x 1 [],.x 18 []] 27,.cells [.x 19 [],.x 20 [],.x 21 [],.x 22 []] 42,.ext false (.s false 7 c.4.length (cN c.4)),.ext false (.s false 1 c.5.length (cI c.5)),.ext false (.s false 2 c.6.length (cL c.6)),.ext false (.s false 2 c.7.length (cK c.7)),.ext false (.s false 1 s.1.length (cT s.1)),.ext false (.s false 1 s.2.length (cT s.2)),.ext false (.s false 1 s.3.length (cT s.3)),.ext false (.s false 4 s.4.length (cP s.4)),.rowc 156 3 qs.length (.fn (cQ qs)),.ext false (.s false 7 c.4.length (cN c.4)),.ext false (.s false 1 c.5.length (cI c.5)),.ext false (.s false 2 c.7.length (cK c.7)),.ext false (.s false 1 s.1.length (cT s.1)),.ext false (.s false 1 s.2.length (cT s.2)),.ext false (.s false 1 s.3.length (cT s.3)),.ext false (.s false 4 s.4.length (cP s.4))]) K R)=W (bif decide ((↑j:Int)<(↑ls.length:Int)) then(∀ M:Mem,(0:Int)≤(↑j:Int)∧(↑j:Int)<(↑ls.length:Int))∧(∀ M:Mem,j<List.length ls)∧(∀ M:Mem,(m+1)*24≤140737488355328∧m+1≤140737488355328)∧K [.rnd [0,0,1,1,0,0,1,1,0,0,1,0,1,1,1,1,1,1,1] M,.blk 8,.blk 7,.at [1,1,1,0,0,1,0,1,1,1,1,1,1,1],.rnd [0,0,1,0,1,1,1,1,1,1,1] M2,.blk 6,.at [1,1,1,1,1,1,1,1]] (St.mk [(96,.v (qA (IntKind.wrap .i64 ((↑j:Int)+(1:Int))))),(95,.v (qA (↑ls.length:Int))),(94,.o 0),(19,.v (qA (↑i:Int))),(87,.v (qA (↑i:Int))),(86,.v (qA (↑c.6.length:Int))),(85,.x 1 []),(14,.o 2),(12,.x 3 []),(10,.p 4 0),(5,.p 5 0),(7,.p 6 0)] [.rowc 3 1 ls.length (.fn (cI ls)),.ext false (.s false 2 c.6.length (cL c.6)),.rowc 111 3 (m+1) (.app m (.fn (cQ os)) (.lit 3 [.v (qA 2),.v (qA (↑i:Int)),.v (qA (gI ls j))])),.ext false (.s false 1 n (cT rows)),.cells [.v (qA c.1),.v (qA c.2),.v (qA c.3),.x 7 [],.x 8 [],.x 9 [],.x 10 [],.x 11 [],.x 12 [],.x 13 [],.x 14 [],.v (qA so),.v (qA k),.o 15] 154,.cells [.v (qA c.1),.v (qA c.2),.v (qA c.3),.x 16 [],.x 17 [],.x 1 [],.x 18 []] 27,.cells [.x 19 [],.x 20 [],.x 21 [],.x 22 []] 42,.ext false (.s false 7 c.4.length (cN c.4)),.ext false (.s false 1 c.5.length (cI c.5)),.ext false (.s false 2 c.6.length (cL c.6)),.ext false (.s false 2 c.7.length (cK c.7)),.ext false (.s false 1 s.1.length (cT s.1)),.ext false (.s false 1 s.2.length (cT s.2)),.ext false (.s false 1 s.3.length (cT s.3)),.ext false (.s false 4 s.4.length (cP s.4)),.rowc 156 3 qs.length (.fn (cQ qs)),.ext false (.s false 7 c.4.length (cN c.4)),.ext false (.s false 1 c.5.length (cI c.5)),.ext false (.s false 2 c.7.length (cK c.7)),.ext false (.s false 1 s.1.length (cT s.1)),.ext false (.s false 1 s.2.length (cT s.2)),.ext false (.s false 1 s.3.length (cT s.3)),.ext false (.s false 4 s.4.length (cP s.4))]) else K [.rnd [0,0,1,0,1,1,1,1,1,1,1] M2,.blk 6,.at [1,1,1,1,1,1,1,1]] (St.mk [(87,.v (qA (IntKind.wrap .i64 ((↑i:Int)+(1:Int))))),(86,.v (qA (↑c.6.length:Int))),(85,.x 0 []),(14,.o 1),(12,.x 2 []),(10,.p 3 0),(5,.p 4 0),(7,.p 5 0)] [.ext false (.s false 2 c.6.length (cL c.6)),.rowc 111 3 m (.fn (cQ os)),.ext false (.s false 1 n (cT rows)),.cells [.v (qA c.1),.v (qA c.2),.v (qA c.3),.x 6 [],.x 7 [],.x 8 [],.x 9 [],.x 10 [],.x 11 [],.x 12 [],.x 13 [],.v (qA so),.v (qA k),.o 14] 154,.cells [.v (qA c.1),.v (qA c.2),.v (qA c.3),.x 15 [],.x 16 [],.x 0 [],.x 17 []] 27,.cells [.x 18 [],.x 19 [],.x 20 [],.x 21 []] 42,.ext false (.s false 7 c.4.length (cN c.4)),.ext false (.s false 1 c.5.length (cI c.5)),.ext false (.s false 2 c.6.length (cL c.6)),.ext false (.s false 2 c.7.length (cK c.7)),.ext false (.s false 1 s.1.length (cT s.1)),.ext false (.s false 1 s.2.length (cT s.2)),.ext false (.s false 1 s.3.length (cT s.3)),.ext false (.s false 4 s.4.length (cP s.4)),.rowc 156 3 qs.length (.fn (cQ qs)),.ext false (.s false 7 c.4.length (cN c.4)),.ext false (.s false 1 c.5.length (cI c.5)),.ext false (.s false 2 c.7.length (cK c.7)),.ext false (.s false 1 s.1.length (cT s.1)),.ext false (.s false 1 s.2.length (cT s.2)),.ext false (.s false 1 s.3.length (cT s.3)),.ext false (.s false 4 s.4.length (cP s.4))])):=by kernel_rfl
theorem fa5(c:Cir)(s:Sht)(so k:Int)(qs:List (Int×Int×Int))(rows:List (List Nat))(n:Nat)(os:List (Int×Int×Int))(m:Nat)(i M:Nat)(K:List It→St→Prop)(R:SV→List HO→Prop):W (xwp Tryz.prog X K79 [] 60 (qK Tryz.f25 [] [⟨[0,1,0,1,1,1,1],[38,37,12,10,5,7,2],[(12,67,1)]⟩,⟨[0,1,0,1,1,1,1,1,1],[51,50,49,14,12,10,5,7,2],[(14,111,3)]⟩,⟨[0,1,1,0,0,1,1,0,0,1,0,1,1,1,1,1,1],[17,18,16,15,51,50,49,14,12,10,5,7,2],[]⟩,⟨[0,1,0,1,1,1,1,1,1,1],[87,86,85,14,12,10,5,7],[]⟩,⟨[0,1,1,0,0,1,1,0,0,1,0,1,1,1,1,1,1,1],[96,95,94,19,87,86,85,14,12,10,5,7],[]⟩,⟨[0,1,0,1,1,1,1,1,1,1,1],[111,110,109,14,10],[]⟩]) [] (.at [0,0,1,0,1,1,1,1,1,1,1,1]::.rnd [0,0,1,0,1,1,1,1,1,1,1,1] M::[.blk 10,.at [1,1,1,1,1,1,1,1,1]]) (St.mk [(111,.v (qA (i:Int))),(110,.v (qA (↑s.4.length:Int))),(109,.x 0 []),(14,.o 1),(10,.p 2 0)] [.ext false (.s false 4 s.4.length (cP s.4)),.rowc 111 3 m (.fn (cQ os)),.cells [.v (qA c.1),.v (qA c.2),.v (qA c.3),.x 3 [],.x 4 [],.x 5 [],.x 6 [],.x 7 [],.x 8 [],.x 9 [],.x 10 [],.v (qA so),.v (qA k),.o 11] 154,.ext false (.s false 7 c.4.length (cN c.4)),.ext false (.s false 1 c.5.length (cI c.5)),.ext false (.s false 2 c.6.length (cL c.6)),.ext false (.s false 2 c.7.length (cK c.7)),.ext false (.s false 1 s.1.length (cT s.1)),.ext false (.s false 1 s.2.length (cT s.2)),.ext false (.s false 1 s.3.length (cT s.3)),.ext false (.s false 4 s.4.length (cP s.4)),.rowc 156 3 qs.length (.fn (cQ qs))]) K R)=W (bif decide ((↑i:Int)<(↑s.4.length:Int)) then(∀ M:Mem,(0:Int)≤(↑i:Int)∧(↑i:Int)<(↑s.4.length:Int))∧(∀ M:Mem,i<List.length s.4)∧(∀ M:Mem,0+4≤4)∧lFk (lc 14 [.v (qA c.1),.v (qA c.2),.v (qA c.3),.s false 7 c.4.length (cN c.4),.s false 1 c.5.length (cI c.5),.s false 2 c.6.length (cL c.6),.s false 2 c.7.length (cK c.7),.s false 1 s.1.length (cT s.1),.s false 1 s.2.length (cT s.2),.s false 1 s.3.length (cT s.3),.s false 4 s.4.length (cP s.4),.v (qA so),.v (qA k),.s false 3 qs.length (cQ qs)]) fun(c_1:Cir) (s_1:Sht) (so_1 k_1:Int) (qs_1:List (Int×Int×Int))=>((0:Int)≤(gP s.4 i).1∧(gP s.4 i).1<(↑c_1.7.length:Int))∧lFk (lc 14 [.v (qA c.1),.v (qA c.2),.v (qA c.3),.s false 7 c.4.length (cN c.4),.s false 1 c.5.length (cI c.5),.s false 2 c.6.length (cL c.6),.s false 2 c.7.length (cK c.7),.s false 1 s.1.length (cT s.1),.s false 1 s.2.length (cT s.2),.s false 1 s.3.length (cT s.3),.s false 4 s.4.length (cP s.4),.v (qA so),.v (qA k),.s false 3 qs.length (cQ qs)]) fun(c_2:Cir) (s_2:Sht) (so_2 k_2:Int) (qs_2:List (Int×Int×Int))=>((0:Int)≤(gP s.4 i).2.2.1∧(gP s.4 i).2.2.1<(↑c_2.7.length:Int))∧bif !decide ((eI (qDp c_1 s_1 so_1 (gP s.4 i).1 (gP s.4 i).2.1))=(eI (qDp c_2 s_2 so_2 (gP s.4 i).2.2.1 (gP s.4 i).2.2.2))) then(∀ M:Mem,(m+1)*24≤140737488355328∧m+1≤140737488355328)∧K [.rnd [0,0,1,0,1,1,1,1,1,1,1,1] M,.blk 10,.at [1,1,1,1,1,1,1,1,1]] (St.mk [(111,.v (qA (IntKind.wrap .i64 ((↑i:Int)+(1:Int))))),(110,.v (qA (↑s.4.length:Int))),(109,.x 0 []),(14,.o 1),(10,.p 2 0)] [.ext false (.s false 4 s.4.length (cP s.4)),.rowc 111 3 (m+1) (.app m (.fn (cQ os)) (.lit 3 [.v (qA 3),.v (qA (↑i:Int)),.v (qA 0)])),.cells [.v (qA c.1),.v (qA c.2),.v (qA c.3),.x 3 [],.x 4 [],.x 5 [],.x 6 [],.x 7 [],.x 8 [],.x 9 [],.x 10 [],.v (qA so),.v (qA k),.o 11] 154,.ext false (.s false 7 c.4.length (cN c.4)),.ext false (.s false 1 c.5.length (cI c.5)),.ext false (.s false 2 c.6.length (cL c.6)),.ext false (.s false 2 c.7.length (cK c.7)),.ext false (.s false 1 s.1.length (cT s.1)),.ext false (.s false 1 s.2.length (cT s.2)),.ext false (.s false 1 s.3.length (cT s.3)),.ext false (.s false 4 s.4.length (cP s.4)),.rowc 156 3 qs.length (.fn (cQ qs))]) else K [.rnd [0,0,1,0,1,1,1,1,1,1,1,1] M,.blk 10,.at [1,1,1,1,1,1,1,1,1]] (St.mk [(111,.v (qA (IntKind.wrap .i64 ((↑i:Int)+(1:Int))))),(110,.v (qA (↑s.4.length:Int))),(109,.x 0 []),(14,.o 1),(10,.p 2 0)] [.ext false (.s false 4 s.4.length (cP s.4)),.rowc 111 3 m (.fn (cQ os)),.cells [.v (qA c.1),.v (qA c.2),.v (qA c.3),.x 3 [],.x 4 [],.x 5 [],.x 6 [],.x 7 [],.x 8 [],.x 9 [],.x 10 [],.v (qA so),.v (qA k),.o 11] 154,.ext false (.s false 7 c.4.length (cN c.4)),.ext false (.s false 1 c.5.length (cI c.5)),.ext false (.s false 2 c.6.length (cL c.6)),.ext false (.s false 2 c.7.length (cK c.7)),.ext false (.s false 1 s.1.length (cT s.1)),.ext false (.s false 1 s.2.length (cT s.2)),.ext false (.s false 1 s.3.length (cT s.3)),.ext false (.s false 4 s.4.length (cP s.4)),.rowc 156 3 qs.length (.fn (cQ qs))]) else R (.tup [.o 0,.v (qA 0)]) [.rowc 111 3 m (.fn (cQ os))]):=by kernel_rfl
noncomputable def fT0(c:Cir)(s:Sht)(so k:Int)(qs:List (Int×Int×Int))(rows:List (List Nat))(u:Int)(i:Nat):St:=(St.mk [(38,.v (qA (i:Int))),(37,.v (qA u)),(12,.o 0),(10,.p 1 0),(5,.p 2 0),(7,.p 3 0),(2,.v (qA k))] [.rowc 67 1 rows.length (.fn (cT rows)),.cells [.v (qA c.1),.v (qA c.2),.v (qA c.3),.x 4 [],.x 5 [],.x 6 [],.x 7 [],.x 8 [],.x 9 [],.x 10 [],.x 11 [],.v (qA so),.v (qA k),.o 12] 154,.cells [.v (qA c.1),.v (qA c.2),.v (qA c.3),.x 13 [],.x 14 [],.x 15 [],.x 16 []] 27,.cells [.x 17 [],.x 18 [],.x 19 [],.x 20 []] 42,.ext false (.s false 7 c.4.length (cN c.4)),.ext false (.s false 1 c.5.length (cI c.5)),.ext false (.s false 2 c.6.length (cL c.6)),.ext false (.s false 2 c.7.length (cK c.7)),.ext false (.s false 1 s.1.length (cT s.1)),.ext false (.s false 1 s.2.length (cT s.2)),.ext false (.s false 1 s.3.length (cT s.3)),.ext false (.s false 4 s.4.length (cP s.4)),.rowc 156 3 (List.length (qs)) (.fn (cQ (qs))),.ext false (.s false 7 c.4.length (cN c.4)),.ext false (.s false 1 c.5.length (cI c.5)),.ext false (.s false 2 c.6.length (cL c.6)),.ext false (.s false 2 c.7.length (cK c.7)),.ext false (.s false 1 s.1.length (cT s.1)),.ext false (.s false 1 s.2.length (cT s.2)),.ext false (.s false 1 s.3.length (cT s.3)),.ext false (.s false 4 s.4.length (cP s.4))])
noncomputable def fT1(c:Cir)(s:Sht)(so k:Int)(qs:List (Int×Int×Int))(rows:List (List Nat))(os:List (Int×Int×Int))(i:Nat):St:=(St.mk [(51,.v (qA (i:Int))),(50,.v (qA (↑c.5.length:Int))),(49,.x 0 []),(14,.o 1),(12,.x 2 []),(10,.p 3 0),(5,.p 4 0),(7,.p 5 0),(2,.v (qA k))] [.ext false (.s false 1 c.5.length (cI c.5)),.rowc 111 3 os.length (.fn (cQ os)),.ext false (.s false 1 rows.length (cT rows)),.cells [.v (qA c.1),.v (qA c.2),.v (qA c.3),.x 6 [],.x 7 [],.x 8 [],.x 9 [],.x 10 [],.x 11 [],.x 12 [],.x 13 [],.v (qA so),.v (qA k),.o 14] 154,.cells [.v (qA c.1),.v (qA c.2),.v (qA c.3),.x 15 [],.x 0 [],.x 16 [],.x 17 []] 27,.cells [.x 18 [],.x 19 [],.x 20 [],.x 21 []] 42,.ext false (.s false 7 c.4.length (cN c.4)),.ext false (.s false 1 c.5.length (cI c.5)),.ext false (.s false 2 c.6.length (cL c.6)),.ext false (.s false 2 c.7.length (cK c.7)),.ext false (.s false 1 s.1.length (cT s.1)),.ext false (.s false 1 s.2.length (cT s.2)),.ext false (.s false 1 s.3.length (cT s.3)),.ext false (.s false 4 s.4.length (cP s.4)),.rowc 156 3 qs.length (.fn (cQ qs)),.ext false (.s false 7 c.4.length (cN c.4)),.ext false (.s false 2 c.6.length (cL c.6)),.ext false (.s false 2 c.7.length (cK c.7)),.ext false (.s false 1 s.1.length (cT s.1)),.ext false (.s false 1 s.2.length (cT s.2)),.ext false (.s false 1 s.3.length (cT s.3)),.ext false (.s false 4 s.4.length (cP s.4))])
noncomputable def fT2(c:Cir)(s:Sht)(so k:Int)(qs:List (Int×Int×Int))(rows:List (List Nat))(os:List (Int×Int×Int))(i:Nat)(r to:Int):St:=(St.mk [(17,.v (qA r)),(18,.v (qA to)),(16,.v (qA (gI c.5 i))),(15,.v (qA (↑i:Int))),(51,.v (qA (↑i:Int))),(50,.v (qA (↑c.5.length:Int))),(49,.x 0 []),(14,.o 1),(12,.x 2 []),(10,.p 3 0),(5,.p 4 0),(7,.p 5 0),(2,.v (qA k))] [.ext false (.s false 1 c.5.length (cI c.5)),.rowc 111 3 os.length (.fn (cQ os)),.ext false (.s false 1 rows.length (cT rows)),.cells [.v (qA c.1),.v (qA c.2),.v (qA c.3),.x 6 [],.x 7 [],.x 8 [],.x 9 [],.x 10 [],.x 11 [],.x 12 [],.x 13 [],.v (qA so),.v (qA k),.o 14] 154,.cells [.v (qA c.1),.v (qA c.2),.v (qA c.3),.x 15 [],.x 0 [],.x 16 [],.x 17 []] 27,.cells [.x 18 [],.x 19 [],.x 20 [],.x 21 []] 42,.ext false (.s false 7 c.4.length (cN c.4)),.ext false (.s false 1 c.5.length (cI c.5)),.ext false (.s false 2 c.6.length (cL c.6)),.ext false (.s false 2 c.7.length (cK c.7)),.ext false (.s false 1 s.1.length (cT s.1)),.ext false (.s false 1 s.2.length (cT s.2)),.ext false (.s false 1 s.3.length (cT s.3)),.ext false (.s false 4 s.4.length (cP s.4)),.rowc 156 3 qs.length (.fn (cQ qs)),.ext false (.s false 7 c.4.length (cN c.4)),.ext false (.s false 2 c.6.length (cL c.6)),.ext false (.s false 2 c.7.length (cK c.7)),.ext false (.s false 1 s.1.length (cT s.1)),.ext false (.s false 1 s.2.length (cT s.2)),.ext false (.s false 1 s.3.length (cT s.3)),.ext false (.s false 4 s.4.length (cP s.4))])
noncomputable def fT3(c:Cir)(s:Sht)(so k:Int)(qs:List (Int×Int×Int))(rows:List (List Nat))(os:List (Int×Int×Int))(i:Nat):St:=(St.mk [(87,.v (qA (i:Int))),(86,.v (qA (↑c.6.length:Int))),(85,.x 0 []),(14,.o 1),(12,.x 2 []),(10,.p 3 0),(5,.p 4 0),(7,.p 5 0)] [.ext false (.s false 2 c.6.length (cL c.6)),.rowc 111 3 os.length (.fn (cQ os)),.ext false (.s false 1 rows.length (cT rows)),.cells [.v (qA c.1),.v (qA c.2),.v (qA c.3),.x 6 [],.x 7 [],.x 8 [],.x 9 [],.x 10 [],.x 11 [],.x 12 [],.x 13 [],.v (qA so),.v (qA k),.o 14] 154,.cells [.v (qA c.1),.v (qA c.2),.v (qA c.3),.x 15 [],.x 16 [],.x 0 [],.x 17 []] 27,.cells [.x 18 [],.x 19 [],.x 20 [],.x 21 []] 42,.ext false (.s false 7 c.4.length (cN c.4)),.ext false (.s false 1 c.5.length (cI c.5)),.ext false (.s false 2 c.6.length (cL c.6)),.ext false (.s false 2 c.7.length (cK c.7)),.ext false (.s false 1 s.1.length (cT s.1)),.ext false (.s false 1 s.2.length (cT s.2)),.ext false (.s false 1 s.3.length (cT s.3)),.ext false (.s false 4 s.4.length (cP s.4)),.rowc 156 3 qs.length (.fn (cQ qs)),.ext false (.s false 7 c.4.length (cN c.4)),.ext false (.s false 1 c.5.length (cI c.5)),.ext false (.s false 2 c.7.length (cK c.7)),.ext false (.s false 1 s.1.length (cT s.1)),.ext false (.s false 1 s.2.length (cT s.2)),.ext false (.s false 1 s.3.length (cT s.3)),.ext false (.s false 4 s.4.length (cP s.4))])
noncomputable def fT4(c:Cir)(s:Sht)(so k:Int)(qs:List (Int×Int×Int))(rows:List (List Nat))(os:List (Int×Int×Int))(ls:List Int)(i j:Nat):St:=(St.mk [(96,.v (qA (j:Int))),(95,.v (qA (↑(List.length (ls)):Int))),(94,.o 0),(19,.v (qA (↑i:Int))),(87,.v (qA (↑i:Int))),(86,.v (qA (↑c.6.length:Int))),(85,.x 1 []),(14,.o 2),(12,.x 3 []),(10,.p 4 0),(5,.p 5 0),(7,.p 6 0)] [.rowc 3 1 (List.length (ls)) (.fn (cI (ls))),.ext false (.s false 2 c.6.length (cL c.6)),.rowc 111 3 os.length (.fn (cQ os)),.ext false (.s false 1 rows.length (cT rows)),.cells [.v (qA c.1),.v (qA c.2),.v (qA c.3),.x 7 [],.x 8 [],.x 9 [],.x 10 [],.x 11 [],.x 12 [],.x 13 [],.x 14 [],.v (qA so),.v (qA k),.o 15] 154,.cells [.v (qA c.1),.v (qA c.2),.v (qA c.3),.x 16 [],.x 17 [],.x 1 [],.x 18 []] 27,.cells [.x 19 [],.x 20 [],.x 21 [],.x 22 []] 42,.ext false (.s false 7 c.4.length (cN c.4)),.ext false (.s false 1 c.5.length (cI c.5)),.ext false (.s false 2 c.6.length (cL c.6)),.ext false (.s false 2 c.7.length (cK c.7)),.ext false (.s false 1 s.1.length (cT s.1)),.ext false (.s false 1 s.2.length (cT s.2)),.ext false (.s false 1 s.3.length (cT s.3)),.ext false (.s false 4 s.4.length (cP s.4)),.rowc 156 3 qs.length (.fn (cQ qs)),.ext false (.s false 7 c.4.length (cN c.4)),.ext false (.s false 1 c.5.length (cI c.5)),.ext false (.s false 2 c.7.length (cK c.7)),.ext false (.s false 1 s.1.length (cT s.1)),.ext false (.s false 1 s.2.length (cT s.2)),.ext false (.s false 1 s.3.length (cT s.3)),.ext false (.s false 4 s.4.length (cP s.4))])
noncomputable def fT5(c:Cir)(s:Sht)(so k:Int)(qs:List (Int×Int×Int))(os:List (Int×Int×Int))(i:Nat):St:=(St.mk [(111,.v (qA (i:Int))),(110,.v (qA (↑s.4.length:Int))),(109,.x 0 []),(14,.o 1),(10,.p 2 0)] [.ext false (.s false 4 s.4.length (cP s.4)),.rowc 111 3 os.length (.fn (cQ os)),.cells [.v (qA c.1),.v (qA c.2),.v (qA c.3),.x 3 [],.x 4 [],.x 5 [],.x 6 [],.x 7 [],.x 8 [],.x 9 [],.x 10 [],.v (qA so),.v (qA k),.o 11] 154,.ext false (.s false 7 c.4.length (cN c.4)),.ext false (.s false 1 c.5.length (cI c.5)),.ext false (.s false 2 c.6.length (cL c.6)),.ext false (.s false 2 c.7.length (cK c.7)),.ext false (.s false 1 s.1.length (cT s.1)),.ext false (.s false 1 s.2.length (cT s.2)),.ext false (.s false 1 s.3.length (cT s.3)),.ext false (.s false 4 s.4.length (cP s.4)),.rowc 156 3 qs.length (.fn (cQ qs))])
theorem qMe(c:Cir)(hc:c.ok)(s:Sht)(hs:s.ok)(so k:Int)(qs:List (Int×Int×Int))(fin:List (Int×Int×Int))(hf:fin.length≤100000)(Q:SV→List HO→Prop)(hq:Q (.tup [.o 0,.v (qA 0)]) [.rowc 111 3 fin.length (.fn (cQ fin))])(hcp:∀ x∈s.cp,(0≤x.1∧x.1<(c.eqs.length:Int))∧(0≤x.2.2.1∧x.2.2.1<(c.eqs.length:Int)))(hp:s.cp.length≤256)(hk0:0≤k)(hqs:qs.length≤4000000000000):∀(d i:Nat) (os:List (Int×Int×Int)),i+d=s.cp.length→fin=os++qFh c s so (i:Int) (s.cp.drop i) →
  FOk Tryz.prog Tryz.f25 Q (.rnd [0,0,1,0,1,1,1,1,1,1,1,1] (d+1)::[.blk 10,.at [1,1,1,1,1,1,1,1,1]]) (fT5 c s so k qs os i)
 | 0,i,os,hd,he=>by
  refine FOk.rnd (qD hm 60 ((fa5 c s so k qs [] 0 os os.length i 0 _ _).mpr ⟨?_⟩))
  rw[qF,if_neg (by omega)]
  rw[show i=s.cp.length by omega,List.drop_length,qFh,List.append_nil] at he
  rw[he] at hq
  exact hq
 | d+1,i,os,hd,he=>by
  have hi:i<s.cp.length:=by omega
  obtain⟨hx,hy⟩:=hcp _ (qWy hi)
  refine FOk.rnd (qD hm 60 ((fa5 c s so k qs [] 0 os os.length i (d+1) _ _).mpr ⟨?_⟩))
  rw[qF,if_pos (by omega),qL _ (by omega)]
  rw[qYs hi,qFh,show(i:Int)+1=((i+1:Nat):Int) by omega] at he
  refine aI (aI (aI (qPv c hc s hs so k hk0 qs hqs ⟨hx,qPv c hc s hs so k hk0 qs hqs ⟨hy,?_⟩⟩)))
  rw[qN]
  refine qM (fun h=>?_) (fun h=>?_)
  ·rw[h,cond_true,List.nil_append] at he
   exact qMe c hc s hs so k qs fin hf Q hq hcp hp hk0 hqs d (i+1) os (by omega) he
  ·rw[h,cond_false,← List.append_assoc] at he
   have hlen:os.length+1≤100000:=by
    have:=congrArg List.length he
    simp only[List.length_append,List.length_cons,List.length_nil] at this
    omega
   exact aI (FOk.cv (qMe c hc s hs so k qs fin hf Q hq hcp hp hk0 hqs d (i+1) (os++[((3:Int),(i:Int),(0:Int))]) (by omega) he) ⟨HE.refl _,⟨rfl,rfl,(by rw[List.length_append]; rfl),qBs ((3:Int),(i:Int),(0:Int)) rfl⟩,HE.refl _,HE.refl _,HE.refl _,HE.refl _,HE.refl _,HE.refl _,HE.refl _,HE.refl _,HE.refl _,HE.refl _,trivial⟩)
theorem qTm(c:Cir)(hc:c.ok)(s:Sht)(hs:s.ok)(so k:Int)(qs:List (Int×Int×Int))(fin:List (Int×Int×Int))(hf:fin.length≤100000)(Q:SV→List HO→Prop)(hq:Q (.tup [.o 0,.v (qA 0)]) [.rowc 111 3 fin.length (.fn (cQ fin))])(rows:List (List Nat))(ls:List Int)(hl:ls.length≤100000)(rest:List (Int×Int×Int))(i M:Nat)(hi:i≤100000)(next:∀ os,fin=os++rest→FOk Tryz.prog Tryz.f25 Q (.rnd [0,0,1,0,1,1,1,1,1,1,1] M::[.blk 6,.at [1,1,1,1,1,1,1,1]]) (fT3 c s so k qs rows os (i+1))):∀(d j:Nat) (os:List (Int×Int×Int)),j+d=ls.length→fin=os++((ls.drop j).map (fun r=>((2:Int),(i:Int),r))++rest) →
  FOk Tryz.prog Tryz.f25 Q (.rnd [0,0,1,1,0,0,1,1,0,0,1,0,1,1,1,1,1,1,1] (d+1)::[.blk 8,.blk 7,.at [1,1,1,0,0,1,0,1,1,1,1,1,1,1],.rnd [0,0,1,0,1,1,1,1,1,1,1] M,.blk 6,.at [1,1,1,1,1,1,1,1]]) (fT4 c s so k qs rows os ls i j)
 | 0,j,os,hd,he=>by
  refine FOk.rnd (qD hm 60 ((fa4 c s so k qs rows rows.length os os.length ls i j M 0 _ _).mpr ⟨?_⟩))
  rw[qF,if_neg (by omega),qL _ (by omega)]
  rw[show j=ls.length by omega,List.drop_length,List.map_nil,List.nil_append] at he
  exact next os he
 | d+1,j,os,hd,he=>by
  have hj:j<ls.length:=by omega
  rw[qKe hj,List.map_cons,List.cons_append,← List.singleton_append,← List.append_assoc] at he
  have hlen:os.length+1≤100000:=by
   have:=congrArg List.length he
   simp only[List.length_append,List.length_cons,List.length_nil] at this
   omega
  refine FOk.rnd (qD hm 60 ((fa4 c s so k qs rows rows.length os os.length ls i j M (d+1) _ _).mpr ⟨?_⟩))
  rw[qF,if_pos (by omega),qL j (by omega)]
  exact aI (aI (aI (FOk.cv (qTm c hc s hs so k qs fin hf Q hq rows ls hl rest i M hi next d (j+1) (os++[((2:Int),(i:Int),gI ls j)]) (by omega) he) ⟨HE.refl _,HE.refl _,⟨rfl,rfl,(by rw[List.length_append]; rfl),qBs ((2:Int),(i:Int),gI ls j) rfl⟩,HE.refl _,HE.refl _,HE.refl _,HE.refl _,HE.refl _,HE.refl _,HE.refl _,HE.refl _,HE.refl _,HE.refl _,HE.refl _,HE.refl _,HE.refl _,HE.refl _,HE.refl _,HE.refl _,HE.refl _,HE.refl _,HE.refl _,HE.refl _,trivial⟩)))
theorem qSh(c:Cir)(hc:c.ok)(s:Sht)(hs:s.ok)(so k:Int)(qs:List (Int×Int×Int))(fin:List (Int×Int×Int))(hf:fin.length≤100000)(Q:SV→List HO→Prop)(hq:Q (.tup [.o 0,.v (qA 0)]) [.rowc 111 3 fin.length (.fn (cQ fin))])(hcp:∀ x∈s.cp,(0≤x.1∧x.1<(c.eqs.length:Int))∧(0≤x.2.2.1∧x.2.2.1<(c.eqs.length:Int)))(hp:s.cp.length≤256)(hk0:0≤k)(hqs:qs.length≤4000000000000)(rows:List (List Nat))(hr:rows.length≤4000)(hlk:∀ l∈c.looks,l.1.length≤4∧l.2.length≤4∧(∀ g∈l.1,0≤g∧g<(c.nodes.length:Int))∧∀ g∈l.2,0≤g∧g<(c.nodes.length:Int))(hrl:∀ r∈rows,r.length=c.nodes.length)(hln:c.looks.length≤4):∀(d i:Nat) (os:List (Int×Int×Int)),i+d=c.looks.length→fin=os++(wM rows (i:Int) (c.looks.drop i)++qFh c s so 0 s.cp) →
  FOk Tryz.prog Tryz.f25 Q (.rnd [0,0,1,0,1,1,1,1,1,1,1] (d+1)::[.blk 6,.at [1,1,1,1,1,1,1,1]]) (fT3 c s so k qs rows os i)
 | 0,i,os,hd,he=>by
  refine FOk.rnd (qD hm 60 ((fa3 c s so k qs rows rows.length os os.length i 0 _ _).mpr ⟨?_⟩))
  rw[qF,if_neg (by omega)]
  rw[show i=c.looks.length by omega,List.drop_length,wM,List.nil_append] at he
  exact FOk.loop (s.cp.length+1) (by kernel_rfl) (qMe c hc s hs so k qs fin hf Q hq hcp hp hk0 hqs s.cp.length 0 os (by omega) he)
 | d+1,i,os,hd,he=>by
  have hi:i<c.looks.length:=by omega
  obtain⟨l1,l2,g1,g2⟩:=hlk _ (wY hi)
  rw[qZn hi,wM,show(i:Int)+1=((i+1:Nat):Int) by omega,List.append_assoc] at he
  have hml:=qIn (qEh rows (gL c.looks i).2) (gL c.looks i).1 rows 0
  refine FOk.rnd (qD hm 60 ((fa3 c s so k qs rows rows.length os os.length i (d+1) _ _).mpr ⟨?_⟩))
  rw[qF,if_pos (by omega)]
  refine aI (aI (aI (aI (aI (⟨⟨rows,(gL c.looks i).1,(gL c.looks i).2,⟨rfl,IsC.refl _ _ _⟩,⟨rfl,IsC.refl _ _ _⟩,⟨rfl,IsC.refl _ _ _⟩,by omega,l1,l2,fun r hr2=>⟨fun g hg=>by rw[hrl r hr2]; exact g1 g hg,fun g hg=>by rw[hrl r hr2]; exact g2 g hg⟩,?_⟩⟩)))))
  exact FOk.loop ((xX rows (gL c.looks i).1 (gL c.looks i).2).length+1) (by kernel_rfl) (qTm c hc s hs so k qs fin hf Q hq rows (xX rows (gL c.looks i).1 (gL c.looks i).2) (by rw[xX]; omega) _ i (d+1) (by omega) (fun os2 he2=>qSh c hc s hs so k qs fin hf Q hq hcp hp hk0 hqs rows hr hlk hrl hln d (i+1) os2 (by omega) he2) (xX rows (gL c.looks i).1 (gL c.looks i).2).length 0 os (by omega) he)
theorem qKk(c:Cir)(hc:c.ok)(s:Sht)(hs:s.ok)(so k:Int)(qs:List (Int×Int×Int))(fin:List (Int×Int×Int))(hf:fin.length≤100000)(Q:SV→List HO→Prop)(hq:Q (.tup [.o 0,.v (qA 0)]) [.rowc 111 3 fin.length (.fn (cQ fin))])(rows:List (List Nat))(hr:rows.length≤4000)(i:Nat)(hi:i<c.gates.length)(hi2:i≤100000)(hg:∀ r∈rows,0≤gI c.gates i∧gI c.gates i<(r.length:Int))(rest:List (Int×Int×Int))(M:Nat)(to:Int)(hto:to≤(rows.length:Int))(next:∀ os,fin=os++rest→FOk Tryz.prog Tryz.f25 Q (.rnd [0,0,1,0,1,1,1,1,1,1] M::[.blk 2,.at [1,1,1,1,1,1,1]]) (fT1 c s so k qs rows os (i+1))):∀(d:Nat) (r:Int) (os:List (Int×Int×Int)),0≤r→(to-r).toNat=d→fin=os++(qBx rows (gI c.gates i) (i:Int) d r++rest) →
  FOk Tryz.prog Tryz.f25 Q (.rnd [0,0,1,1,0,0,1,1,0,0,1,0,1,1,1,1,1,1] (d+1)::[.blk 4,.blk 3,.at [1,1,1,0,0,1,0,1,1,1,1,1,1],.rnd [0,0,1,0,1,1,1,1,1,1] M,.blk 2,.at [1,1,1,1,1,1,1]]) (fT2 c s so k qs rows os i r to)
 | 0,r,os,h0,hd,he=>by
  refine FOk.rnd (qD hm 60 ((fa2 c s so k qs rows rows.length os os.length i M 0 r to _ _).mpr ⟨?_⟩))
  rw[qF,if_neg (by omega),qL _ (by omega)]
  rw[qBx,List.nil_append] at he
  exact next os he
 | d+1,r,os,h0,hd,he=>by
  rw[qBx] at he
  have hgr:=hg _ (qBd (show r.toNat<rows.length by omega))
  refine FOk.rnd (qD hm 60 ((fa2 c s so k qs rows rows.length os os.length i M (d+1) r to _ _).mpr ⟨?_⟩))
  rw[qF,if_pos (by omega),jB (r+1) (by omega)]
  refine aI (aI (aI (aI (aI (aI (?_))))))
  rw[qN]
  refine qM (fun h=>?_) (fun h=>?_)
  ·rw[h,cond_true,List.nil_append] at he
   exact qKk c hc s hs so k qs fin hf Q hq rows hr i hi hi2 hg rest M to hto next d (r+1) os (by omega) (by omega) he
  ·rw[h,cond_false,List.append_assoc,← List.append_assoc] at he
   have hlen:os.length+1≤100000:=by
    have:=congrArg List.length he
    simp only[List.length_append,List.length_cons,List.length_nil] at this
    omega
   exact aI (FOk.cv (qKk c hc s hs so k qs fin hf Q hq rows hr i hi hi2 hg rest M to hto next d (r+1) (os++[((1:Int),(i:Int),r)]) (by omega) (by omega) he) ⟨HE.refl _,⟨rfl,rfl,(by rw[List.length_append]; rfl),qBs ((1:Int),(i:Int),r) rfl⟩,HE.refl _,HE.refl _,HE.refl _,HE.refl _,HE.refl _,HE.refl _,HE.refl _,HE.refl _,HE.refl _,HE.refl _,HE.refl _,HE.refl _,HE.refl _,HE.refl _,HE.refl _,HE.refl _,HE.refl _,HE.refl _,HE.refl _,HE.refl _,trivial⟩)
theorem qTv(c:Cir)(hc:c.ok)(s:Sht)(hs:s.ok)(so k:Int)(qs:List (Int×Int×Int))(fin:List (Int×Int×Int))(hf:fin.length≤100000)(Q:SV→List HO→Prop)(hq:Q (.tup [.o 0,.v (qA 0)]) [.rowc 111 3 fin.length (.fn (cQ fin))])(hcp:∀ x∈s.cp,(0≤x.1∧x.1<(c.eqs.length:Int))∧(0≤x.2.2.1∧x.2.2.1<(c.eqs.length:Int)))(hp:s.cp.length≤256)(hk0:0≤k)(hqs:qs.length≤4000000000000)(rows:List (List Nat))(hr:rows.length≤4000)(hlk:∀ l∈c.looks,l.1.length≤4∧l.2.length≤4∧(∀ g∈l.1,0≤g∧g<(c.nodes.length:Int))∧∀ g∈l.2,0≤g∧g<(c.nodes.length:Int))(hrl:∀ r∈rows,r.length=c.nodes.length)(hln:c.looks.length≤4)(h0:zY c=0)(hk5:k≤5)(hru:(rows.length:Int)=usN k):∀(d i:Nat) (os:List (Int×Int×Int)),i+d=c.gates.length→fin=os++(wD c k rows (i:Int) (c.gates.drop i)++(wM rows 0 c.looks++qFh c s so 0 s.cp)) →
  FOk Tryz.prog Tryz.f25 Q (.rnd [0,0,1,0,1,1,1,1,1,1] (d+1)::[.blk 2,.at [1,1,1,1,1,1,1]]) (fT1 c s so k qs rows os i)
 | 0,i,os,hd,he=>by
  refine FOk.rnd (qD hm 60 ((fa1 c s so k qs rows rows.length os os.length i 0 _ _).mpr ⟨?_⟩))
  rw[qF,if_neg (by omega)]
  rw[show i=c.gates.length by omega,List.drop_length,wD,List.nil_append] at he
  exact FOk.loop (c.looks.length+1) (by kernel_rfl) (qSh c hc s hs so k qs fin hf Q hq hcp hp hk0 hqs rows hr hlk hrl hln c.looks.length 0 os (by omega) he)
 | d+1,i,os,hd,he=>by
  have hi:i<c.gates.length:=by omega
  have hin:=qTb h0 _ (xI hi)
  have hl:=qCt h0
  have hb:=qKz (x:=gI c.gates i) h0 (show k≤10 by omega)
  rw[qKe hi,wD,show(i:Int)+1=((i+1:Nat):Int) by omega,List.append_assoc] at he
  refine FOk.rnd (qD hm 60 ((fa1 c s so k qs rows rows.length os os.length i (d+1) _ _).mpr ⟨?_⟩))
  rw[qF,if_pos (by omega)]
  refine aI (aI (wS c hc ?_))
  exact FOk.loop (((jG c k (gI c.gates i)).2-(jG c k (gI c.gates i)).1).toNat+1) (by kernel_rfl) (qKk c hc s hs so k qs fin hf Q hq rows hr i hi (by omega) (fun r hr2=>by rw[hrl r hr2]; exact hin) _ (d+1) _ (by omega) (fun os2 he2=>qTv c hc s hs so k qs fin hf Q hq hcp hp hk0 hqs rows hr hlk hrl hln h0 hk5 hru d (i+1) os2 (by omega) he2) _ _ os hb.1 rfl he)
theorem qUw(c:Cir)(hc:c.ok)(s:Sht)(hs:s.ok)(so k:Int)(qs:List (Int×Int×Int))(fin:List (Int×Int×Int))(hf:fin.length≤100000)(Q:SV→List HO→Prop)(hq:Q (.tup [.o 0,.v (qA 0)]) [.rowc 111 3 fin.length (.fn (cQ fin))])(hcp:∀ x∈s.cp,(0≤x.1∧x.1<(c.eqs.length:Int))∧(0≤x.2.2.1∧x.2.2.1<(c.eqs.length:Int)))(hp:s.cp.length≤256)(hk0:0≤k)(hqs:qs.length≤4000000000000)(h0:zY c=0)(hso:fE so=0)(hk5:k≤5)(he:fin=qJp c s so k)(hqq:qs=qsN [] c.nodes):∀(d i:Nat) (rows:List (List Nat)),i+d=(usN k).toNat→rows=qAd c s so k i →
  FOk Tryz.prog Tryz.f25 Q (.rnd [0,0,1,0,1,1,1,1] (d+1)::[.blk 0,.at [1,1,1,1,1]]) (fT0 c s so k qs rows (usN k) i)
 | 0,i,rows,hd,hrw=>by
  have hu:=qMj hk5
  have hl:=qCt h0
  have hrl:rows.length=(usN k).toNat:=by rw[hrw,qGw]; omega
  refine FOk.rnd (qD hm 60 ((fa0 c s so k qs rows rows.length (usN k) i 0 _ _).mpr ⟨?_⟩))
  rw[qF,if_neg (by omega)]
  refine FOk.frz 2 rfl (FOk.norm (ks:=[51,50,49,14,12,10,5,7,2]) (nl:=[]) (st':=(St.mk [(51,SV.v (qA (0:Int))),(50,SV.v (qA (↑(List.length c.5):Int))),(49,SV.x 0 []),(14,SV.o 1),(12,SV.x 2 []),(10,SV.p 3 0),(5,SV.p 4 0),(7,SV.p 5 0),(2,SV.v (qA k))] [HO.ext false (qG.s false 1 (List.length c.5) (cI c.5)),HO.rowc 111 3 0 (Ct.lit 1 []),HO.ext false (qG.s false 1 rows.length (cT rows)),HO.cells [SV.v (qA c.1),SV.v (qA c.2),SV.v (qA c.3),SV.x 6 [],SV.x 7 [],SV.x 8 [],SV.x 9 [],SV.x 10 [],SV.x 11 [],SV.x 12 [],SV.x 13 [],SV.v (qA so),SV.v (qA k),SV.o 14] 154,HO.cells [SV.v (qA c.1),SV.v (qA c.2),SV.v (qA c.3),SV.x 15 [],SV.x 0 [],SV.x 16 [],SV.x 17 []] 27,HO.cells [SV.x 18 [],SV.x 19 [],SV.x 20 [],SV.x 21 []] 42,HO.ext false (qG.s false 7 (List.length c.4) (cN c.4)),HO.ext false (qG.s false 1 (List.length c.5) (cI c.5)),HO.ext false (qG.s false 2 (List.length c.6) (cL c.6)),HO.ext false (qG.s false 2 (List.length c.7) (cK c.7)),HO.ext false (qG.s false 1 (List.length s.1) (cT s.1)),HO.ext false (qG.s false 1 (List.length s.2) (cT s.2)),HO.ext false (qG.s false 1 (List.length s.3) (cT s.3)),HO.ext false (qG.s false 4 (List.length s.4) (cP s.4)),HO.rowc 156 3 qs.length (Ct.fn (cQ qs)),HO.ext false (qG.s false 7 (List.length c.4) (cN c.4)),HO.ext false (qG.s false 2 (List.length c.6) (cL c.6)),HO.ext false (qG.s false 2 (List.length c.7) (cK c.7)),HO.ext false (qG.s false 1 (List.length s.1) (cT s.1)),HO.ext false (qG.s false 1 (List.length s.2) (cT s.2)),HO.ext false (qG.s false 1 (List.length s.3) (cT s.3)),HO.ext false (qG.s false 4 (List.length s.4) (cP s.4))])) (by kernel_rfl) ?_)
  exact FOk.loop (c.gates.length+1) (by kernel_rfl) (FOk.cv (qTv c hc s hs so k qs fin hf Q hq hcp hp hk0 hqs rows (by omega) (qTi h0) (by rw[hrw]; exact qPe h0 s hso) hl.2.2.1 h0 hk5 (by omega) c.gates.length 0 [] (by omega) (by rw[he,qJp,hrw,show i=(usN k).toNat by omega]; rfl)) ⟨HE.refl _,⟨rfl,rfl,rfl,fun k hk=>by simp at hk⟩,HE.refl _,HE.refl _,HE.refl _,HE.refl _,HE.refl _,HE.refl _,HE.refl _,HE.refl _,HE.refl _,HE.refl _,HE.refl _,HE.refl _,HE.refl _,HE.refl _,HE.refl _,HE.refl _,HE.refl _,HE.refl _,HE.refl _,HE.refl _,trivial⟩)
 | d+1,i,rows,hd,hrw=>by
  have hu:=qMj hk5
  have hrl:rows.length=i:=by rw[hrw,qGw]
  have hn:=hc.n.2
  refine FOk.rnd (qD hm 60 ((fa0 c s so k qs rows rows.length (usN k) i (d+1) _ _).mpr ⟨?_⟩))
  rw[qF,if_pos (by omega),qL _ (by omega)]
  refine qPv c hc s hs so k hk0 qs hqs (And.intro (fun _=>by omega) ?_)
  exact FOk.cv (qUw c hc s hs so k qs fin hf Q hq hcp hp hk0 hqs h0 hso hk5 he hqq d (i+1) (rows++[zT c s so k qs (i:Int)]) (by omega) (by rw[hrw,hqq,qLd])) ⟨⟨rfl,rfl,(by rw[List.length_append]; rfl),qQo _ rfl⟩,HE.refl _,HE.refl _,HE.refl _,HE.refl _,HE.refl _,HE.refl _,HE.refl _,HE.refl _,HE.refl _,HE.refl _,HE.refl _,HE.refl _,HE.refl _,HE.refl _,HE.refl _,HE.refl _,HE.refl _,HE.refl _,HE.refl _,HE.refl _,trivial⟩
theorem zWn:Tryz.f25.body.isSome=true:=by kernel_rfl
theorem zYf(c:Cir)(so k:Int):Nat.ble ([.v (.int .i64 so),.agg [.v (.int .i64 c.fx),.v (.int .i64 c.ad),.v (.int .i64 c.ins),.x 0 [],.x 1 [],.x 2 [],.x 3 []],.v (.int .i64 k),.agg [.x 4 [],.x 5 [],.x 6 [],.x 7 []]]:List SV).length Tryz.f25.ntmps=true:=by kernel_rfl
theorem zMa(c:Cir)(hc:c.ok)(s:Sht)(hs:s.ok)(so k:Int)(Q:SV→List HO→Prop)(hq:Q (.tup [.o 0,.v (.int .i64 (zU c s so k).2)]) [.rowc 111 3 (zU c s so k).1.length (.fn (cQ (zU c s so k).1))]):qI Tryz.prog 25 [.v (.int .i64 so),.agg [.v (.int .i64 c.fx),.v (.int .i64 c.ad),.v (.int .i64 c.ins),.x 0 [],.x 1 [],.x 2 [],.x 3 []],.v (.int .i64 k),.agg [.x 4 [],.x 5 [],.x 6 [],.x 7 []]] [.ext false (.s false 7 c.nodes.length (cN c.nodes)),.ext false (.s false 1 c.gates.length (cI c.gates)),.ext false (.s false 2 c.looks.length (cL c.looks)),.ext false (.s false 2 c.eqs.length (cK c.eqs)),.ext false (.s false 1 s.fx.length (cT s.fx)),.ext false (.s false 1 s.ad.length (cT s.ad)),.ext false (.s false 1 s.is.length (cT s.is)),.ext false (.s false 4 s.cp.length (cP s.cp))] Q:=by
 refine qI.mono (qI.eqv (r0:=.tup [.o 0,.v (.int .i64 (zU c s so k).2)]) (h0:=[.rowc 111 3 (zU c s so k).1.length (.fn (cQ (zU c s so k).1))]) ?_) (fun r h' hh=>by rw[hh.1,hh.2]; exact hq)
 refine qI.nilT 111 3 (qJ Tryz.func25 zWn ?_ ?_)
 ·exact zYf c so k
 refine qD hm 60 ((zXo c s so k _ _).mpr ⟨?_⟩)
 have bad:∀ e:Int,zU c s so k=([],e)→(fun r h'=>(r=SV.tup [.o 0,.v (.int .i64 (zU c s so k).2)]∧HEs h' [.rowc 111 3 (zU c s so k).1.length (.fn (cQ (zU c s so k).1))])∨(∃ y,r=.tup [.v (.slice none 0 0),.v y]∧h'=[]∧(SV.tup [.o 0,.v y]=SV.tup [.o 0,.v (.int .i64 (zU c s so k).2)]∧HEs [HO.rowc 111 3 0 (.lit 1 [])] [.rowc 111 3 (zU c s so k).1.length (.fn (cQ (zU c s so k).1))]))) (SV.tup [SV.v (Value.slice none 0 0),SV.v (qA e)]) []:=fun e he=>by
  rw[he]
  exact .inr ⟨_,rfl,rfl,rfl,⟨rfl,rfl,rfl,fun k hk=>by omega⟩,trivial⟩
 rw[qN,qT]
 refine aI (qE (fun h0=>?_) (fun h0=>?_))
 ·refine qDs c hc s hs ?_
  rw[qN,qT]
  refine qE (fun h1=>?_) (fun h1=>?_)
  ·obtain⟨hk0,hk3,hk5,_⟩:=wK h1
   obtain⟨hp,hcp⟩:=qWj h1
   have hl:=qCt hk0
   have hl2:=qFa c.nodes []
   rw[List.length_nil] at hl2
   refine⟨c.nodes,rfl,IsC.refl _ _ _,by omega,?_⟩
   have e:zU c s so k=(qJp c s so k,0):=by rw[zU,if_neg (fun h=>h h0),if_neg (fun h=>h h1)]
   rw[e]
   exact FOk.loop ((usN k).toNat+1) (by kernel_rfl) (FOk.cv (qUw c hc s hs so k (qsN [] c.nodes) (qJp c s so k) (qMi hk0 hk5 hp) _ (.inl ⟨rfl,HEs.refl _⟩) hcp hp (by omega) (by omega) hk0 h0 hk5 rfl rfl (usN k).toNat 0 [] (by omega) rfl) ⟨⟨rfl,rfl,rfl,fun k hk=>by simp at hk⟩,HE.refl _,HE.refl _,HE.refl _,HE.refl _,HE.refl _,HE.refl _,HE.refl _,HE.refl _,HE.refl _,HE.refl _,HE.refl _,HE.refl _,HE.refl _,HE.refl _,HE.refl _,HE.refl _,HE.refl _,HE.refl _,HE.refl _,HE.refl _,trivial⟩)
  ·rw[qN,qT,if_neg h1]
   exact bad _ (by rw[zU,if_neg (fun h=>h h0),if_pos h1])
 ·rw[qN,qT,if_neg h0]
  exact bad _ (by rw[zU,if_pos h0])
noncomputable def zOw:List SV→List HO→Option ((SV→List HO→Prop)→Prop)
 | [.v (.int .i64 so),.agg [.v (.int .i64 fx),.v (.int .i64 ad),.v (.int .i64 ins),.x 0 [],.x 1 [],.x 2 [],.x 3 []],.v (.int .i64 k),.agg [.x 4 [],.x 5 [],.x 6 [],.x 7 []]],[.ext false (.s false 7 n0 c0),.ext false (.s false 1 n1 c1),.ext false (.s false 2 n2 c2),.ext false (.s false 2 n3 c3),.ext false (.s false 1 m0 d0),.ext false (.s false 1 m1 d1),.ext false (.s false 1 m2 d2),.ext false (.s false 4 m3 d3)] =>
  some fun Q=>lF fx ad ins n0 n1 n2 n3 m0 m1 m2 m3 c0 c1 c2 c3 d0 d1 d2 d3 fun c s=>Q (.tup [.o 0,.v (.int .i64 (zU c s so k).2)]) [.rowc 111 3 (zU c s so k).1.length (.fn (cQ (zU c s so k).1))]
 | _,_=>none
theorem zGt(args:List SV)(h:List HO)(tr:(SV→List HO→Prop)→Prop)(Q:SV→List HO→Prop)(hc:zOw args h=some tr)(ht:tr Q):qI Tryz.prog 25 args h Q:=by
 unfold zOw at hc
 split at hc
 ·simp only[sI] at hc
  subst hc
  obtain⟨c,rfl,rfl,rfl,⟨rfl,e0⟩,⟨rfl,e1⟩,⟨rfl,e2⟩,⟨rfl,e3⟩,hk,ht2⟩:=ht.h.h
  obtain⟨s,⟨rfl,e4⟩,⟨rfl,e5⟩,⟨rfl,e6⟩,⟨rfl,e7⟩,hs,hq⟩:=ht2.h
  exact qI.ac (zMa c hk s hs _ _ Q hq) ⟨⟨rfl,rfl,rfl,rfl,e0⟩,⟨rfl,rfl,rfl,rfl,e1⟩,⟨rfl,rfl,rfl,rfl,e2⟩,⟨rfl,rfl,rfl,rfl,e3⟩,⟨rfl,rfl,rfl,rfl,e4⟩,⟨rfl,rfl,rfl,rfl,e5⟩,⟨rfl,rfl,rfl,rfl,e6⟩,⟨rfl,rfl,rfl,rfl,e7⟩,trivial⟩
 ·cases hc
noncomputable def K80:Con Tryz.prog:=K79.add 25 zOw zGt
end Go.Proofs.YtlmjdcbhpffanaaGreat
/- An argument that is a nil slice, told as an empty frozen memory. -/
namespace Go.Sx
open Go.RowKit
end Go.Sx
/- A row of one's own is given up; what refers to it in other objects is told anew. -/
namespace Go.Sx
open Go.RowKit
def zEz(i n:Nat):HO→HO
 | .cells xs T=>.cells (qNv i n xs) T
 | .row T sz k xs=>.row T sz k (qNv i n xs)
 | x=>x
theorem FOk.frzH{P:Program}{m:Nat}{fn:Func}{Q:SV→List HO→Prop}{k:List It}{tm:List (Nat×SV)}{h:List HO}(i:Nat){T:TypeId}{sz n:Nat}{c:Ct}(hi:h[i]?=some (.rowc T sz n c))(hk:yV P m fn Q k ⟨zCh i h.length tm,(h.set i .gone++[HO.ext false (qG.s false sz n c.at)]).map (zEz i h.length)⟩):yV P m fn Q k ⟨tm,h⟩:=by
 intro F hF w0 hw0 e a w S T0
 have hlt:=(List.getElem?_eq_some_iff.1 hi).1
 obtain⟨S1,hle⟩:=S.drop hF i hlt
 obtain⟨zB,h1,_,h2⟩:=S.sat i _ hi
 obtain⟨f,f1,f2,f3⟩:=S.frozen hi rfl h1 hle h2
 have S2:=S1.newExt hF false (.s false sz n c.at) f f1 (by simpa using f3)
 rw[List.length_set] at S2
 have hag:=wH e h.length f f1
 have hv:(e.setV h.length f f1).val h.length []=(e.setV h.length f f1).row i:=by
  have:(e.setV h.length f f1).val h.length=f:=by simp [Env.setV]
  rw[this,f2]; rfl
 have hl:(h.set i HO.gone++[HO.ext false (.s false sz n c.at)]).length=h.length+1:=by simp
 have S3:=S2.conv hF (h':=(h.set i HO.gone++[HO.ext false (.s false sz n c.at)]).map (zEz i h.length)) (by rw[List.length_map]) (fun j x' hx'=>by
  rw[List.getElem?_map] at hx'
  obtain⟨x,hx,rfl⟩:=Option.map_eq_some_iff.1 hx'
  refine⟨x,hx,?_,?_,?_⟩
  ·cases x <;> rfl
  ·cases x with
   | cells xs T=>intro hs; simp only[zEz,HO.sat,qAw i _ _ hv] at hs ⊢; exact hs
   | row T sz k xs=>intro hs; simp only[zEz,HO.sat,qAw i _ _ hv] at hs ⊢; exact hs
   | _=>exact fun hs=>hs
  ·cases x with
   | cells xs T=>exact fun hs=>qDk i h.length _ (by rw[hl]; exact Nat.lt_succ_self _) xs hs
   | row T sz k xs=>exact fun hs=>qDk i h.length _ (by rw[hl]; exact Nat.lt_succ_self _) xs hs
   | _=>exact fun hs=>hs)
 refine hk F hF w0 hw0 _ a w S3 ⟨T0.size,T0.defers,fun t s hs=>?_,fun t s hs=>?_⟩
 ·obtain⟨s0,q1,rfl⟩:=qHv i _ tm hs
  rw[qHa i _ _ hv,T0.get t s0 q1,yS hag s0 (T0.wsc t s0 q1)]
 ·obtain⟨s0,q1,rfl⟩:=qHv i _ tm hs
  show ws ((h.set i HO.gone++[HO.ext false (.s false sz n c.at)]).map (zEz i h.length)).length _
  rw[List.length_map,hl]
  exact qLe i _ _ (Nat.lt_succ_self _) s0 (wB (Nat.le_succ _) s0 (T0.wsc t s0 q1))
theorem FOk.nilA{P:Program}{m:Nat}{fn:Func}{Q:SV→List HO→Prop}{k:List It}{tm:List (Nat×SV)}{h:List HO}(t j sz:Nat)(c:Nat→Nat→qG){cs:List SV}(ht:lk tm t=some (.agg cs))(hj:cs[j]?=some (.v (.slice none 0 0)))(hk:yV P m fn Q k ⟨(t,.agg (cs.set j (.x h.length [])))::del tm t,h++[HO.ext false (qG.s false sz 0 c)]⟩):yV P m fn Q k ⟨tm,h⟩:=by
 intro F hF w0 hw0 e a w S T0
 have S2:=S.newExt hF false (.s false sz 0 c) (fun _=>.slice none 0 0) (fun _=>rfl) ⟨none,⟨0,rfl,Nat.le_refl _⟩,.inl rfl⟩
 have hag:=wH e h.length (fun _=>.slice none 0 0) (fun _=>rfl)
 have hl:(h++[HO.ext false (qG.s false sz 0 c)]).length=h.length+1:=by simp
 have hws:wsL h.length cs:=T0.wsc t _ ht
 have hden:∀(l:List SV) (j:Nat),l[j]?=some (.v (.slice none 0 0))→wsL h.length l→qS (e.setV h.length (fun _=>.slice none 0 0) (fun _=>rfl)) (l.set j (.x h.length []))=qS e l:=by
  intro l
  induction l with
  | nil=>intro j hj _; cases hj
  | cons x r ih =>
   intro j hj hw
   cases j with
   | zero =>
    simp only[List.getElem?_cons_zero,sI] at hj
    subst hj
    simp only[List.set_cons_zero,qS,den]
    rw[jL hag r hw.2]
    simp [Env.setV]
   | succ j =>
    simp only[List.set_cons_succ,qS]
    rw[ih j hj hw.2,yS hag x hw.1]
 have hwset:∀(l:List SV) (j:Nat),wsL h.length l→wsL (h.length+1) (l.set j (.x h.length [])):=by
  intro l
  induction l with
  | nil=>intro j _; exact trivial
  | cons x r ih =>
   intro j hw
   cases j with
   | zero=>exact⟨Nat.lt_succ_self _,yY (Nat.le_succ _) r hw.2⟩
   | succ j=>exact⟨wB (Nat.le_succ _) x hw.1,ih j hw.2⟩
 refine hk F hF w0 hw0 _ a w S2 ⟨T0.size,T0.defers,fun t2 s hs=>?_,fun t2 s hs=>?_⟩
 ·simp only[lk] at hs
  cases hb:Nat.beq t t2 with
  | true =>
   rw[hb] at hs
   simp only[cond_true,sI] at hs
   subst hs
   rw[← Nat.eq_of_beq_eq_true hb]
   refine(T0.get t _ ht).trans (congrArg some ?_)
   have e1:den (e.setV h.length (fun _=>.slice none 0 0) (fun _=>rfl)) (.agg (cs.set j (.x h.length [])))=.agg (qS (e.setV h.length (fun _=>.slice none 0 0) (fun _=>rfl)) (cs.set j (.x h.length []))).toArray:=by rw[den]
   rw[hden cs j hj hws] at e1
   rw[den]
   exact e1.symm
  | false =>
   rw[hb] at hs
   rw[cond_false,xU tm t t2 (fun h=>by rw[h,Nat.beq_refl] at hb; cases hb)] at hs
   exact(T0.get t2 s hs).trans (congrArg some (yS hag s (T0.wsc t2 s hs)).symm)
 ·rw[hl]
  simp only[lk] at hs
  cases hb:Nat.beq t t2 with
  | true =>
   rw[hb] at hs
   simp only[cond_true,sI] at hs
   subst hs
   exact hwset cs j hws
  | false =>
   rw[hb] at hs
   rw[cond_false,xU tm t t2 (fun h=>by rw[h,Nat.beq_refl] at hb; cases hb)] at hs
   exact wB (Nat.le_succ _) s (T0.wsc t2 s hs)
end Go.Sx
/- Faults compared; great circuits. -/
namespace Go.Pl
open Go.Sx
def qGs(c:Cir)(s:Sht):Bool:=decide (200<c.nodes.length∨100<c.gates.length∨20<c.looks.length∨100<c.eqs.length∨100<s.fx.length+s.ad.length+s.is.length∨1000<s.cp.length)
end Go.Pl
namespace Go.Proofs.YtlmjdcbhpffanaaGreat
open Go.Sx Go.Pl
set_option linter.unusedVariables false
set_option maxRecDepth 100000
theorem sfR(b b2:Bool)(l l2:List (Int×Int×Int))(n n2 k M:Nat)(K:List It→St→Prop)(R:SV→List HO→Prop):W (xwp Tryz.prog X K80 [] 60 (qK Tryz.f27 [] [⟨[0,1,0,1,1],[5,4,0,1],[]⟩]) [] (.at [0,0,1,0,1,1]::.rnd [0,0,1,0,1,1] M::[.blk 0,.at [1,1,1]]) ⟨[(5,.v (.int .i64 (k:Int))),(4,.v (.bool false)),(0,.x 0 []),(1,.x 1 [])],[.ext b (.s false 3 n (cQ l)),.ext b2 (.s false 3 n2 (cQ l2))]⟩ K R)=W (bif decide ((↑k:Int)<(↑n:Int)) then(∀ M:Mem,(0:Int)≤(↑k:Int)∧(↑k:Int)<(↑n:Int))∧(∀ M:Mem,k<n)∧(∀ M:Mem,(0:Int)≤(↑k:Int)∧(↑k:Int)<(↑n2:Int))∧(∀ M:Mem,k<n2)∧bif !decide ([(gQ l k).1,(gQ l k).2.1,(gQ l k).2.2]=[(gQ l2 k).1,(gQ l2 k).2.1,(gQ l2 k).2.2]) then R (.v (.bool false)) [] else K [.rnd [0,0,1,0,1,1] M,.blk 0,.at [1,1,1]] (St.mk [(5,.v (qA (IntKind.wrap .i64 ((↑k:Int)+(1:Int))))),(4,.v (.bool false)),(0,.x 0 []),(1,.x 1 [])] [.ext b (.s false 3 n (cQ l)),.ext b2 (.s false 3 n2 (cQ l2))]) else R (.v (.bool true)) []):=by kernel_rfl
theorem sfS(b b2:Bool)(l l2:List (Int×Int×Int))(n n2:Nat)(K:List It→St→Prop)(R:SV→List HO→Prop):W (xwp Tryz.prog X K80 [] 60 (qK Tryz.f27 [] [⟨[0,1,0,1,1],[5,4,0,1],[]⟩]) [] [.at []] ⟨qR 0 [.x 0 [],.x 1 []],[.ext b (.s false 3 n (cQ l)),.ext b2 (.s false 3 n2 (cQ l2))]⟩ K R)=W (bif !(↑n:Int)==(↑n2:Int) then R (.v (.bool false)) [] else K [.at [0,1,0,1,1],.blk 0,.at [1,1,1]] (St.mk [(5,.v (qA 0)),(4,.v (.bool false)),(0,.x 0 []),(1,.x 1 [])] [.ext b (.s false 3 n (cQ l)),.ext b2 (.s false 3 n2 (cQ l2))])):=by kernel_rfl
theorem zQl(c:Cir)(s:Sht)(K:List It→St→Prop)(R:SV→List HO→Prop):W (xwp Tryz.prog X K80 [] 60 (qK Tryz.f19 [] []) [] [.at []] ⟨qR 0 [.agg [.v (.int .i64 c.fx),.v (.int .i64 c.ad),.v (.int .i64 c.ins),.x 0 [],.x 1 [],.x 2 [],.x 3 []],.agg [.x 4 [],.x 5 [],.x 6 [],.x 7 []]],[.ext false (.s false 7 c.nodes.length (cN c.nodes)),.ext false (.s false 1 c.gates.length (cI c.gates)),.ext false (.s false 2 c.looks.length (cL c.looks)),.ext false (.s false 2 c.eqs.length (cK c.eqs)),.ext false (.s false 1 s.fx.length (cT s.fx)),.ext false (.s false 1 s.ad.length (cT s.ad)),.ext false (.s false 1 s.is.length (cT s.is)),.ext false (.s false 4 s.cp.length (cP s.cp))]⟩ K R)=W (bif decide ((200:Int)<(↑c.4.length:Int)) then R (.v (.bool true)) [] else bif decide ((100:Int)<(↑c.5.length:Int)) then R (.v (.bool true)) [] else bif decide ((20:Int)<(↑c.6.length:Int)) then R (.v (.bool true)) [] else bif decide ((100:Int)<(↑c.7.length:Int)) then R (.v (.bool true)) [] else bif decide ((100:Int)<IntKind.wrap .i64 (IntKind.wrap .i64 ((↑s.1.length:Int)+(↑s.2.length:Int))+(↑s.3.length:Int))) then R (.v (.bool true)) [] else R (.v (.bool (decide ((1000:Int)<(↑s.4.length:Int))))) []):=by kernel_rfl
theorem qZv(b b2:Bool)(l l2:List (Int×Int×Int))(hl:l.length=l2.length)(hb:l.length≤4398046511104)(Q:SV→List HO→Prop)(hq1:(∀ k,k<l.length→[(gQ l k).1,(gQ l k).2.1,(gQ l k).2.2]=[(gQ l2 k).1,(gQ l2 k).2.1,(gQ l2 k).2.2])→Q (.v (.bool true)) [])(hq0:(∃ k,k<l.length∧¬ ([(gQ l k).1,(gQ l k).2.1,(gQ l k).2.2]=[(gQ l2 k).1,(gQ l2 k).2.1,(gQ l2 k).2.2]))→Q (.v (.bool false)) []):
  ∀(d k:Nat),k+d=l.length→(∀ k',k'<k→[(gQ l k').1,(gQ l k').2.1,(gQ l k').2.2]=[(gQ l2 k').1,(gQ l2 k').2.1,(gQ l2 k').2.2]) →
  FOk Tryz.prog Tryz.f27 Q (.rnd [0,0,1,0,1,1] (d+1)::[.blk 0,.at [1,1,1]]) ⟨[(5,.v (.int .i64 (k:Int))),(4,.v (.bool false)),(0,.x 0 []),(1,.x 1 [])],[.ext b (.s false 3 l.length (cQ l)),.ext b2 (.s false 3 l2.length (cQ l2))]⟩
 | 0,k,hd,he=>by
  refine FOk.rnd (qD hm 60 ((sfR b b2 l l2 l.length l2.length k 0 _ _).mpr ⟨?_⟩))
  simp only[qF]
  rw[if_neg (by omega)]
  exact hq1 fun k' hk'=>he k' (by omega)
 | d+1,k,hd,he=>by
  refine FOk.rnd (qD hm 60 ((sfR b b2 l l2 l.length l2.length k (d+1) _ _).mpr ⟨?_⟩))
  simp only[qF,qN,forall_const]
  rw[if_pos (by omega)]
  repeat' (first | refine And.intro (by omega) ?_ | refine qE (fun h=>?_) (fun h=>?_))
  ·rw[qL _ (by omega)]
   refine qZv b b2 l l2 hl hb Q hq1 hq0 d (k+1) (by omega) fun k' hk'=>?_
   by_cases hh:k'=k
   ·rw[hh]; exact h
   ·exact he k' (by omega)
  ·exact hq0 ⟨k,by omega,h⟩
theorem bsf:Tryz.f27.body.isSome=true:=by kernel_rfl
theorem nsf:Nat.ble [SV.x 0 [],.x 1 []].length Tryz.f27.ntmps=true:=by kernel_rfl
theorem zQj(b b2:Bool)(l l2:List (Int×Int×Int))(hb:l.length≤4398046511104)(Q:SV→List HO→Prop)(hq1:l.length=l2.length→(∀ k,k<l.length→[(gQ l k).1,(gQ l k).2.1,(gQ l k).2.2]=[(gQ l2 k).1,(gQ l2 k).2.1,(gQ l2 k).2.2])→Q (.v (.bool true)) [])(hq0:(l.length≠l2.length∨∃ k,k<l.length∧¬ ([(gQ l k).1,(gQ l k).2.1,(gQ l k).2.2]=[(gQ l2 k).1,(gQ l2 k).2.1,(gQ l2 k).2.2]))→Q (.v (.bool false)) []):qI Tryz.prog 27 [.x 0 [],.x 1 []] [.ext b (.s false 3 l.length (cQ l)),.ext b2 (.s false 3 l2.length (cQ l2))] Q:=by
 refine qJ Tryz.func27 bsf ?_ ?_
 ·exact nsf
 refine qD hm 60 ((sfS b b2 l l2 l.length l2.length _ _).mpr ⟨?_⟩)
 simp only[qN,qT]
 refine qE (fun h=>?_) (fun h=>hq0 (.inl (by omega)))
 have h':l.length=l2.length:=by omega
 exact FOk.loop (l.length+1) (by kernel_rfl) (qZv b b2 l l2 h' hb Q (hq1 h') (fun hh=>hq0 (.inr hh)) l.length 0 (by omega) fun k' hk'=>by omega)
noncomputable def zNn:List SV→List HO→Option ((SV→List HO→Prop)→Prop)
 | [.x 0 [],.x 1 []],[.ext _ (.s false 3 n c),.ext _ (.s false 3 n2 c2)]=>some fun Q=>lQ2 n n2 c c2 fun l l2=>Q (.v (.bool (decide (l=l2)))) []
 | _,_=>none
theorem zHy(args:List SV)(h:List HO)(tr:(SV→List HO→Prop)→Prop)(Q:SV→List HO→Prop)(hc:zNn args h=some tr)(ht:tr Q):qI Tryz.prog 27 args h Q:=by
 unfold zNn at hc
 split at hc
 ·rename_i b n c b2 n2 c2
  simp only[sI] at hc
  subst hc
  obtain⟨l,l2,rfl,he,rfl,he2,hb,hq⟩:=ht.h
  refine qI.ac (zQj b b2 l l2 hb Q (fun h1 h2=>?_) (fun h1=>?_)) ⟨⟨rfl,rfl,rfl,rfl,he⟩,⟨rfl,rfl,rfl,rfl,he2⟩,trivial⟩
  ·rw[decide_eq_true (zNx h1 fun k hk=>zUs (h2 k hk))] at hq; exact hq
  ·rw[decide_eq_false (fun hh=>by subst hh; exact h1.elim (fun h=>h rfl) (fun⟨_,_,h⟩=>h rfl))] at hq; exact hq
 ·cases hc
theorem zQw:Tryz.f19.body.isSome=true:=by kernel_rfl
theorem zQi(c:Cir):Nat.ble [(.agg [.v (.int .i64 c.fx),.v (.int .i64 c.ad),.v (.int .i64 c.ins),.x 0 [],.x 1 [],.x 2 [],.x 3 []]:SV),.agg [.x 4 [],.x 5 [],.x 6 [],.x 7 []]].length Tryz.f19.ntmps=true:=by kernel_rfl
theorem zGj(c:Cir)(hc:c.ok)(s:Sht)(hs:s.ok)(Q:SV→List HO→Prop)(hq:Q (.v (.bool (qGs c s))) []):qI Tryz.prog 19 [.agg [.v (.int .i64 c.fx),.v (.int .i64 c.ad),.v (.int .i64 c.ins),.x 0 [],.x 1 [],.x 2 [],.x 3 []],.agg [.x 4 [],.x 5 [],.x 6 [],.x 7 []]] [.ext false (.s false 7 c.nodes.length (cN c.nodes)),.ext false (.s false 1 c.gates.length (cI c.gates)),.ext false (.s false 2 c.looks.length (cL c.looks)),.ext false (.s false 2 c.eqs.length (cK c.eqs)),.ext false (.s false 1 s.fx.length (cT s.fx)),.ext false (.s false 1 s.ad.length (cT s.ad)),.ext false (.s false 1 s.is.length (cT s.is)),.ext false (.s false 4 s.cp.length (cP s.cp))] Q:=by
 refine qJ Tryz.func19 zQw ?_ ?_
 ·exact zQi c
 have h1:=hs.f.2
 have h2:=hs.a.2
 have h3:=hs.i.2
 refine qD hm 60 ((zQl c s _ _).mpr ⟨?_⟩)
 rw[jB ((s.1.length:Int)+(s.2.length:Int)) (by omega),jB _ (by omega)]
 simp only[qF]
 refine qE (fun h=>?_) (fun h=>qE (fun h2=>?_) (fun h2=>qE (fun h3=>?_) (fun h3=>qE (fun h4=>?_) (fun h4=>qE (fun h5=>?_) (fun h5=>?_)))))
 all_goals first
  | (rw[show qGs c s=true from decide_eq_true (by omega)] at hq; exact hq)
  | (rw[show decide ((1000:Int)<(s.cp.length:Int))=qGs c s from decide_eq_decide.2 (by omega)]; exact hq)
noncomputable def zEs:List SV→List HO→Option ((SV→List HO→Prop)→Prop)
 | [.agg [.v (.int .i64 fx),.v (.int .i64 ad),.v (.int .i64 ins),.x 0 [],.x 1 [],.x 2 [],.x 3 []],.agg [.x 4 [],.x 5 [],.x 6 [],.x 7 []]],[.ext false (.s false 7 n0 c0),.ext false (.s false 1 n1 c1),.ext false (.s false 2 n2 c2),.ext false (.s false 2 n3 c3),.ext false (.s false 1 m0 d0),.ext false (.s false 1 m1 d1),.ext false (.s false 1 m2 d2),.ext false (.s false 4 m3 d3)] =>
  some fun Q=>lF fx ad ins n0 n1 n2 n3 m0 m1 m2 m3 c0 c1 c2 c3 d0 d1 d2 d3 fun c s=>Q (.v (.bool (qGs c s))) []
 | _,_=>none
theorem zBz(args:List SV)(h:List HO)(tr:(SV→List HO→Prop)→Prop)(Q:SV→List HO→Prop)(hc:zEs args h=some tr)(ht:tr Q):qI Tryz.prog 19 args h Q:=by
 unfold zEs at hc
 split at hc
 ·simp only[sI] at hc
  subst hc
  obtain⟨c,rfl,rfl,rfl,⟨rfl,e0⟩,⟨rfl,e1⟩,⟨rfl,e2⟩,⟨rfl,e3⟩,hk,ht2⟩:=ht.h.h
  obtain⟨s,⟨rfl,e4⟩,⟨rfl,e5⟩,⟨rfl,e6⟩,⟨rfl,e7⟩,hs,hq⟩:=ht2.h
  exact qI.ac (zGj c hk s hs Q hq) ⟨⟨rfl,rfl,rfl,rfl,e0⟩,⟨rfl,rfl,rfl,rfl,e1⟩,⟨rfl,rfl,rfl,rfl,e2⟩,⟨rfl,rfl,rfl,rfl,e3⟩,⟨rfl,rfl,rfl,rfl,e4⟩,⟨rfl,rfl,rfl,rfl,e5⟩,⟨rfl,rfl,rfl,rfl,e6⟩,⟨rfl,rfl,rfl,rfl,e7⟩,trivial⟩
 ·cases hc
noncomputable def K82:Con Tryz.prog:=(K80.add 27 zNn zHy).add 19 zEs zBz
end Go.Proofs.YtlmjdcbhpffanaaGreat
/- The document's cell value; columns that are short. -/
namespace Go.Proofs.YtlmjdcbhpffanaaGreat
open Go.Sx Go.Pl
set_option linter.unusedVariables false
set_option maxRecDepth 100000
theorem zYi(b:Bool)(l:List (List Nat))(n u:Int)(K:List It→St→Prop)(R:SV→List HO→Prop):W (xwp Tryz.prog X K82 [] 60 (qK Tryz.f57 [] [⟨[0,1,0,1,1],[7,0,2],[]⟩]) [] [.at []] ⟨qR 0 [.x 0 [],.v (.int .i64 n),.v (.int .i64 u)],[.ext b (.s false 1 l.length (cT l))]⟩ K R)=W (bif !(↑l.length:Int)==n then R (.v (.bool false)) [] else K [.at [0,1,0,1,1],.blk 0,.at [1,1,1]] (St.mk [(7,.v (qA 0)),(0,.x 0 []),(2,.v (qA u))] [.ext b (.s false 1 l.length (cT l))])):=by kernel_rfl
theorem zQv(b:Bool)(l:List (List Nat))(u:Int)(k M:Nat)(K:List It→St→Prop)(R:SV→List HO→Prop):W (xwp Tryz.prog X K82 [] 60 (qK Tryz.f57 [] [⟨[0,1,0,1,1],[7,0,2],[]⟩]) [] (.at [0,0,1,0,1,1]::.rnd [0,0,1,0,1,1] M::[.blk 0,.at [1,1,1]]) ⟨[(7,.v (.int .i64 (k:Int))),(0,.x 0 []),(2,.v (.int .i64 u))],[.ext b (.s false 1 l.length (cT l))]⟩ K R)=W (bif decide ((↑k:Int)<(↑l.length:Int)) then(∀ M:Mem,(0:Int)≤(↑k:Int)∧(↑k:Int)<(↑l.length:Int))∧(∀ M:Mem,k<List.length l)∧(∀ M:Mem,k<List.length l)∧bif decide (u<(↑(List.length (gT l k)):Int)) then R (.v (.bool false)) [] else K [.rnd [0,0,1,0,1,1] M,.blk 0,.at [1,1,1]] (St.mk [(7,.v (qA (IntKind.wrap .i64 ((↑k:Int)+(1:Int))))),(0,.x 0 []),(2,.v (qA u))] [.ext b (.s false 1 l.length (cT l))]) else R (.v (.bool true)) []):=by kernel_rfl
theorem zXq(s:Sht)(kd co ro:Int)(K:List It→St→Prop)(R:SV→List HO→Prop):W (xwp Tryz.prog X K82 [] 60 (qK Tryz.f24 [] []) [] [.at []] ⟨qR 0 [.agg [.x 0 [],.x 1 [],.x 2 [],.x 3 []],.v (.int .i64 kd),.v (.int .i64 co),.v (.int .i64 ro)],[.ext false (.s false 1 s.fx.length (cT s.fx)),.ext false (.s false 1 s.ad.length (cT s.ad)),.ext false (.s false 1 s.is.length (cT s.is)),.ext false (.s false 4 s.cp.length (cP s.cp))]⟩ K R)=W (bif kd==(2:Int) then bif decide (co<(0:Int)) then(∀ M:Mem,4≤4)∧R (.agg [.v (qC 0),.v (qC 0),.v (qC 0),.v (qC 0)]) [] else bif decide ((↑s.1.length:Int)≤co) then(∀ M:Mem,4≤4)∧R (.agg [.v (qC 0),.v (qC 0),.v (qC 0),.v (qC 0)]) [] else bif decide (ro<(0:Int)) then(∀ M:Mem,4≤4)∧R (.agg [.v (qC 0),.v (qC 0),.v (qC 0),.v (qC 0)]) [] else(∀ M:Mem,(0:Int)≤co∧co<(↑s.1.length:Int))∧(∀ M:Mem,Int.toNat co<List.length s.1)∧(∀ M:Mem,Int.toNat co<List.length s.1)∧bif decide ((↑(List.length (gT s.1 (Int.toNat co))):Int)≤ro) then(∀ M:Mem,4≤4)∧R (.agg [.v (qC 0),.v (qC 0),.v (qC 0),.v (qC 0)]) [] else(∀ M:Mem,(0:Int)≤co∧co<(↑s.1.length:Int))∧(∀ M:Mem,Int.toNat co<List.length s.1)∧(∀ M:Mem,Int.toNat co<List.length s.1)∧(∀ M:Mem,(0:Int)≤ro∧ro<(↑(List.length (gT s.1 (Int.toNat co))):Int))∧(∀ M:Mem,Int.toNat co<List.length s.1)∧(∀ M:Mem,Int.toNat ro<List.length (gT s.1 (Int.toNat co)))∧(∀ M:Mem,0+4≤4)∧R ((eS (gE (gT s.1 (Int.toNat co)) (Int.toNat ro)))) [] else bif kd==(3:Int) then bif decide (co<(0:Int)) then(∀ M:Mem,4≤4)∧R (.agg [.v (qC 0),.v (qC 0),.v (qC 0),.v (qC 0)]) [] else bif decide ((↑s.2.length:Int)≤co) then(∀ M:Mem,4≤4)∧R (.agg [.v (qC 0),.v (qC 0),.v (qC 0),.v (qC 0)]) [] else bif decide (ro<(0:Int)) then(∀ M:Mem,4≤4)∧R (.agg [.v (qC 0),.v (qC 0),.v (qC 0),.v (qC 0)]) [] else(∀ M:Mem,(0:Int)≤co∧co<(↑s.2.length:Int))∧(∀ M:Mem,Int.toNat co<List.length s.2)∧(∀ M:Mem,Int.toNat co<List.length s.2)∧bif decide ((↑(List.length (gT s.2 (Int.toNat co))):Int)≤ro) then(∀ M:Mem,4≤4)∧R (.agg [.v (qC 0),.v (qC 0),.v (qC 0),.v (qC 0)]) [] else(∀ M:Mem,(0:Int)≤co∧co<(↑s.2.length:Int))∧(∀ M:Mem,Int.toNat co<List.length s.2)∧(∀ M:Mem,Int.toNat co<List.length s.2)∧(∀ M:Mem,(0:Int)≤ro∧ro<(↑(List.length (gT s.2 (Int.toNat co))):Int))∧(∀ M:Mem,Int.toNat co<List.length s.2)∧(∀ M:Mem,Int.toNat ro<List.length (gT s.2 (Int.toNat co)))∧(∀ M:Mem,0+4≤4)∧R ((eS (gE (gT s.2 (Int.toNat co)) (Int.toNat ro)))) [] else bif kd==(4:Int) then bif decide (co<(0:Int)) then(∀ M:Mem,4≤4)∧R (.agg [.v (qC 0),.v (qC 0),.v (qC 0),.v (qC 0)]) [] else bif decide ((↑s.3.length:Int)≤co) then(∀ M:Mem,4≤4)∧R (.agg [.v (qC 0),.v (qC 0),.v (qC 0),.v (qC 0)]) [] else bif decide (ro<(0:Int)) then(∀ M:Mem,4≤4)∧R (.agg [.v (qC 0),.v (qC 0),.v (qC 0),.v (qC 0)]) [] else(∀ M:Mem,(0:Int)≤co∧co<(↑s.3.length:Int))∧(∀ M:Mem,Int.toNat co<List.length s.3)∧(∀ M:Mem,Int.toNat co<List.length s.3)∧bif decide ((↑(List.length (gT s.3 (Int.toNat co))):Int)≤ro) then(∀ M:Mem,4≤4)∧R (.agg [.v (qC 0),.v (qC 0),.v (qC 0),.v (qC 0)]) [] else(∀ M:Mem,(0:Int)≤co∧co<(↑s.3.length:Int))∧(∀ M:Mem,Int.toNat co<List.length s.3)∧(∀ M:Mem,Int.toNat co<List.length s.3)∧(∀ M:Mem,(0:Int)≤ro∧ro<(↑(List.length (gT s.3 (Int.toNat co))):Int))∧(∀ M:Mem,Int.toNat co<List.length s.3)∧(∀ M:Mem,Int.toNat ro<List.length (gT s.3 (Int.toNat co)))∧(∀ M:Mem,0+4≤4)∧R ((eS (gE (gT s.3 (Int.toNat co)) (Int.toNat ro)))) [] else bif decide (co<(0:Int)) then(∀ M:Mem,4≤4)∧R (.agg [.v (qC 0),.v (qC 0),.v (qC 0),.v (qC 0)]) [] else bif decide ((0:Int)≤co) then(∀ M:Mem,4≤4)∧R (.agg [.v (qC 0),.v (qC 0),.v (qC 0),.v (qC 0)]) [] else bif decide (ro<(0:Int)) then(∀ M:Mem,4≤4)∧R (.agg [.v (qC 0),.v (qC 0),.v (qC 0),.v (qC 0)]) [] else(∀ M:Mem,(0:Int)≤co∧co<(0:Int))∧K [It.ops [0,0,1,1,1] 17,.at [1,0,1,1,1],.at [1,1,1,1]] (St.mk [(40,SV.q 6 (Int.toNat co*1)),(39,.v (qA co)),(38,.o 6),(37,.v (qA ro)),(36,.bl false),(35,.v (.bool (decide (ro<(0:Int))))),(34,.v (.bool (decide (ro<(0:Int))))),(33,.v (qA ro)),(32,.bl false),(31,.v (.bool (decide ((0:Int)≤co)))),(30,.v (.bool (decide ((0:Int)≤co)))),(29,.v (qA 0)),(28,.o 6),(27,.v (qA co)),(26,.bl false),(25,.v (.bool (decide (co<(0:Int))))),(24,.v (qA co)),(20,.bl false),(21,.v (.bool (kd==(4:Int)))),(16,.bl false),(17,.v (.bool (kd==(3:Int)))),(12,.bl false),(13,.v (.bool (kd==(2:Int)))),(11,.v (qA kd)),(9,.o 6),(10,.o 6),(8,.p 5 0),(4,.p 4 0),(0,.agg [.x 0 [],.x 1 [],.x 2 [],.x 3 []]),(1,.v (qA kd)),(2,.v (qA co)),(3,.v (qA ro))] [.ext false (.s false 1 s.1.length (cT s.1)),.ext false (.s false 1 s.2.length (cT s.2)),.ext false (.s false 1 s.3.length (cT s.3)),.ext false (.s false 4 s.4.length (cP s.4)),.cells [.x 0 [],.x 1 [],.x 2 [],.x 3 []] 42,.cells [.v (qC 0),.v (qC 0),.v (qC 0),.v (qC 0)] 53,HO.row 67 1 0 []])):=by kernel_rfl
theorem qXb{co ro:Int}{Q:SV→List HO→Prop}(t:List (List Nat))(hq:Q (eS (atT t co ro)) []):(bif decide (co<(0:Int)) then(∀(M:Mem),4≤4)∧Q (.agg [.v (qC 0),.v (qC 0),.v (qC 0),.v (qC 0)]) [] else bif decide ((t.length:Int)≤co) then(∀(M:Mem),4≤4)∧Q (.agg [.v (qC 0),.v (qC 0),.v (qC 0),.v (qC 0)]) [] else bif decide (ro<(0:Int)) then(∀(M:Mem),4≤4)∧Q (.agg [.v (qC 0),.v (qC 0),.v (qC 0),.v (qC 0)]) [] else(∀(M:Mem),(0:Int)≤co∧co<(t.length:Int))∧(∀(M:Mem),Int.toNat co<t.length)∧(∀(M:Mem),Int.toNat co<t.length)∧bif decide (((gT t (Int.toNat co)).length:Int)≤ro) then(∀(M:Mem),4≤4)∧Q (.agg [.v (qC 0),.v (qC 0),.v (qC 0),.v (qC 0)]) [] else(∀(M:Mem),(0:Int)≤co∧co<(t.length:Int))∧(∀(M:Mem),Int.toNat co<t.length)∧(∀(M:Mem),Int.toNat co<t.length)∧(∀(M:Mem),(0:Int)≤ro∧ro<((gT t (Int.toNat co)).length:Int))∧(∀(M:Mem),Int.toNat co<t.length)∧(∀(M:Mem),Int.toNat ro<(gT t (Int.toNat co)).length)∧(∀(M:Mem),0+4≤4)∧Q (eS (gE (gT t (Int.toNat co)) (Int.toNat ro))) []):=by
 simp only[qF,← xM]
 refine qE (fun h=>?_) (fun h=>qE (fun h2=>?_) (fun h2=>qE (fun h3=>?_) (fun h3=>?_)))
 ·rw[qJw (.inl h)] at hq; exact⟨fun _=>by omega,hq⟩
 ·rw[qXx h2] at hq; exact⟨fun _=>by omega,hq⟩
 ·rw[qJw (.inr h3)] at hq; exact⟨fun _=>by omega,hq⟩
 refine aI (aI (aI (qE (fun h4=>?_) (fun h4=>?_))))
 ·rw[zAd h4] at hq; exact⟨fun _=>by omega,hq⟩
 ·rw[zEb h h3] at hq
  exact aI (aI (aI (aI (aI (aI (And.intro (fun _=>by omega) hq))))))
theorem zVi:Tryz.f24.body.isSome=true:=by kernel_rfl
theorem zVv(kd co ro:Int):Nat.ble [(.agg [.x 0 [],.x 1 [],.x 2 [],.x 3 []]:SV),.v (.int .i64 kd),.v (.int .i64 co),.v (.int .i64 ro)].length Tryz.f24.ntmps=true:=by kernel_rfl
theorem zDi(s:Sht)(kd co ro:Int)(Q:SV→List HO→Prop)(hq:Q (eS (atS s kd co ro)) []):qI Tryz.prog 24 [.agg [.x 0 [],.x 1 [],.x 2 [],.x 3 []],.v (.int .i64 kd),.v (.int .i64 co),.v (.int .i64 ro)] [.ext false (.s false 1 s.fx.length (cT s.fx)),.ext false (.s false 1 s.ad.length (cT s.ad)),.ext false (.s false 1 s.is.length (cT s.is)),.ext false (.s false 4 s.cp.length (cP s.cp))] Q:=by
 refine qJ Tryz.func24 zVi ?_ ?_
 ·exact zVv kd co ro
 refine qD hm 60 ((zXq s kd co ro _ _).mpr ⟨?_⟩)
 rw[atS,qUm] at hq
 rw[qT]
 refine qE (fun h2=>qXb s.fx (by rw[if_pos h2] at hq; exact hq)) (fun h2=>?_)
 rw[if_neg h2] at hq
 rw[qT]
 refine qE (fun h3=>qXb s.ad (by rw[if_pos h3] at hq; exact hq)) (fun h3=>?_)
 rw[if_neg h3] at hq
 rw[qT]
 refine qE (fun h4=>qXb s.is (by rw[if_pos h4] at hq; exact hq)) (fun h4=>?_)
 rw[if_neg h4] at hq
 have e:atT [] co ro=0:=by
  rw[atT]; split
  ·rfl
  ·exact qPy (Nat.zero_le _)
 rw[e] at hq
 simp only[qF,← xM]
 refine qE (fun h=>⟨fun _=>by omega,hq⟩) (fun h=>qE (fun h2=>⟨fun _=>by omega,hq⟩) (fun h2=>absurd h2 (by omega)))
noncomputable def zIa:List SV→List HO→Option ((SV→List HO→Prop)→Prop)
 | [.agg [.x 0 [],.x 1 [],.x 2 [],.x 3 []],.v (.int .i64 kd),.v (.int .i64 co),.v (.int .i64 ro)],[.ext false (.s false 1 n0 c0),.ext false (.s false 1 n1 c1),.ext false (.s false 1 n2 c2),.ext false (.s false 4 n3 c3)] =>
  some fun Q=>lS n0 n1 n2 n3 c0 c1 c2 c3 fun s=>Q (eS (atS s kd co ro)) []
 | _,_=>none
theorem qZf(args:List SV)(h:List HO)(tr:(SV→List HO→Prop)→Prop)(Q:SV→List HO→Prop)(hc:zIa args h=some tr)(ht:tr Q):qI Tryz.prog 24 args h Q:=by
 unfold zIa at hc
 split at hc
 ·simp only[sI] at hc
  subst hc
  obtain⟨s,⟨rfl,e0⟩,⟨rfl,e1⟩,⟨rfl,e2⟩,⟨rfl,e3⟩,hs,hq⟩:=ht.h
  exact qI.ac (zDi s _ _ _ Q hq) ⟨⟨rfl,rfl,rfl,rfl,e0⟩,⟨rfl,rfl,rfl,rfl,e1⟩,⟨rfl,rfl,rfl,rfl,e2⟩,⟨rfl,rfl,rfl,rfl,e3⟩,trivial⟩
 ·cases hc
theorem qUo(b:Bool)(l:List (List Nat))(hl:l.length≤17592186043904)(u:Int)(Q:SV→List HO→Prop)(hq:Q (.v (.bool (!l.any (qDq u)))) []):∀(d k:Nat),k+d=l.length→(l.take k).any (qDq u)=false →
  FOk Tryz.prog Tryz.f57 Q (.rnd [0,0,1,0,1,1] (d+1)::[.blk 0,.at [1,1,1]]) ⟨[(7,.v (.int .i64 (k:Int))),(0,.x 0 []),(2,.v (.int .i64 u))],[.ext b (.s false 1 l.length (cT l))]⟩
 | 0,k,hd,he=>by
  refine FOk.rnd (qD hm 60 ((zQv b l u k 0 _ _).mpr ⟨?_⟩))
  rw[qF,if_neg (by omega)]
  rw[List.take_of_length_le (by omega)] at he
  rw[he] at hq
  exact hq
 | d+1,k,hd,he=>by
  have hk:k<l.length:=by omega
  refine FOk.rnd (qD hm 60 ((zQv b l u k (d+1) _ _).mpr ⟨?_⟩))
  rw[qF,if_pos (by omega),qL _ (by omega)]
  refine aI (aI (And.intro (fun _=>by omega) ?_))
  show bif qDq u (gT l k) then _ else _
  refine qM (fun h=>?_) (fun h=>?_)
  ·rw[List.any_eq_true.2 ⟨_,qBd hk,h⟩] at hq
   exact hq
  ·exact qUo b l hl u Q hq d (k+1) (by omega) (by rw[qQv hk,List.any_append,he,List.any_cons,h]; rfl)
theorem zVb:Tryz.f57.body.isSome=true:=by kernel_rfl
theorem zXf(n u:Int):Nat.ble [SV.x 0 [],.v (.int .i64 n),.v (.int .i64 u)].length Tryz.f57.ntmps=true:=by kernel_rfl
theorem zNm(b:Bool)(l:List (List Nat))(hl:l.length≤17592186043904)(n u:Int)(Q:SV→List HO→Prop)(hq:Q (.v (.bool (!wrT n u l))) []):qI Tryz.prog 57 [.x 0 [],.v (.int .i64 n),.v (.int .i64 u)] [.ext b (.s false 1 l.length (cT l))] Q:=by
 refine qJ Tryz.func57 zVb ?_ ?_
 ·exact zXf n u
 refine qD hm 60 ((zYi b l n u _ _).mpr ⟨?_⟩)
 rw[wrT] at hq
 refine qM (fun h=>?_) (fun h=>?_)
 ·rw[h] at hq; exact hq
 ·rw[h,Bool.false_or] at hq
  exact FOk.loop (l.length+1) (by kernel_rfl) (qUo b l hl u Q hq l.length 0 (by omega) rfl)
noncomputable def zGf:List SV→List HO→Option ((SV→List HO→Prop)→Prop)
 | [.x 0 [],.v (.int .i64 n),.v (.int .i64 u)],[.ext _ (.s false 1 m c)]=>some fun Q=>lT m c fun l=>Q (.v (.bool (!wrT n u l))) []
 | _,_=>none
theorem qYc(args:List SV)(h:List HO)(tr:(SV→List HO→Prop)→Prop)(Q:SV→List HO→Prop)(hc:zGf args h=some tr)(ht:tr Q):qI Tryz.prog 57 args h Q:=by
 unfold zGf at hc
 split at hc
 ·simp only[sI] at hc
  subst hc
  obtain⟨l,rfl,he,hb,hq⟩:=ht.h
  have:=hb.2
  exact qI.ac (zNm _ l (by omega) _ _ Q hq) ⟨⟨rfl,rfl,rfl,rfl,he⟩,trivial⟩
 ·cases hc
noncomputable def K88:Con Tryz.prog:=(K82.add 24 zIa qZf).add 57 zGf qYc
end Go.Proofs.YtlmjdcbhpffanaaGreat
/- The statements' first line: plain. -/
namespace Go.Pl
open Go.Sx
def alD:Cir:=⟨0,1,0,[⟨3,0,0,0⟩,⟨3,0,1,0⟩,⟨5,1,0,0⟩,⟨6,0,2,0⟩],[3],[],[]⟩
def wR:Sht:=⟨[],[[1,1,2]],[],[]⟩
theorem zJc:alD.ok where
 f:=by unfold i64; simp only[alD]; omega
 a:=by unfold i64; simp only[alD]; omega
 i:=by unfold i64; simp only[alD]; omega
 n:=by
  refine⟨?_,by decide⟩
  intro x hx
  simp only[alD,List.mem_cons,List.not_mem_nil,or_false] at hx
  rcases hx with rfl | rfl | rfl | rfl <;> simp only[top,i64] <;> omega
 g:=by
  refine⟨?_,by decide⟩
  intro x hx
  simp only[alD,List.mem_singleton] at hx
  subst hx
  unfold i64; omega
 l:=by refine⟨?_,by decide⟩; intro x hx; cases hx
 e:=by refine⟨?_,by decide⟩; intro x hx; cases hx
theorem zFx:wR.ok where
 f:=⟨fun x hx=>(by cases hx),by decide⟩
 a:=by
  refine⟨?_,by decide⟩
  intro x hx
  simp only[wR,List.mem_singleton] at hx
  subst hx
  refine⟨?_,by decide⟩
  intro v hv
  simp only[List.mem_cons,List.not_mem_nil,or_false] at hv
  rcases hv with rfl | rfl | rfl <;> simp only[top] <;> omega
 i:=⟨fun x hx=>(by cases hx),by decide⟩
 c:=⟨fun x hx=>(by cases hx),by decide⟩
theorem zTp:IsC 4 7 (lc 7 [qG.v (qA (3:Int)),qG.v (qA (0:Int)),qG.v (qA (0:Int)),qG.v (qC (0:Int)),qG.v (qC (0:Int)),qG.v (qC (0:Int)),qG.v (qC (0:Int)),qG.v (qA (3:Int)),qG.v (qA (0:Int)),qG.v (qA (1:Int)),qG.v (qC (0:Int)),qG.v (qC (0:Int)),qG.v (qC (0:Int)),qG.v (qC (0:Int)),qG.v (qA (5:Int)),qG.v (qA (1:Int)),qG.v (qA (0:Int)),qG.v (qC (0:Int)),qG.v (qC (0:Int)),qG.v (qC (0:Int)),qG.v (qC (0:Int)),qG.v (qA (6:Int)),qG.v (qA (0:Int)),qG.v (qA (2:Int)),qG.v (qC (0:Int)),qG.v (qC (0:Int)),qG.v (qC (0:Int)),qG.v (qC (0:Int))]) (cN alD.nodes):=by
 intro k hk j hj
 have hk':k=0∨k=1∨k=2∨k=3:=by omega
 have hj':j=0∨j=1∨j=2∨j=3∨j=4∨j=5∨j=6:=by omega
 rcases hk' with rfl | rfl | rfl | rfl <;> rcases hj' with rfl | rfl | rfl | rfl | rfl | rfl | rfl <;> simp [lc,cN,gN,alD,qBb,xG]
theorem zSo:IsC 1 1 (lc 1 [qG.v (qA (3:Int))]) (cI alD.gates):=by
 intro k hk j hj
 have hk':k=0:=by omega
 have hj':j=0:=by omega
 subst hk' hj'
 rfl
theorem zMw:IsC 3 4 (lc 4 [qG.v (qC (1:Int)),qG.v (qC (0:Int)),qG.v (qC (0:Int)),qG.v (qC (0:Int)),qG.v (qC (1:Int)),qG.v (qC (0:Int)),qG.v (qC (0:Int)),qG.v (qC (0:Int)),qG.v (qC (2:Int)),qG.v (qC (0:Int)),qG.v (qC (0:Int)),qG.v (qC (0:Int))]) (cE [1,1,2]):=by
 obtain⟨a0,a1,a2,a3⟩:=qTx 1 (by omega)
 obtain⟨b0,b1,b2,b3⟩:=qTx 2 (by omega)
 intro k hk j hj
 have hk':k=0∨k=1∨k=2:=by omega
 have hj':j=0∨j=1∨j=2∨j=3:=by omega
 rcases hk' with rfl | rfl | rfl <;> rcases hj' with rfl | rfl | rfl | rfl <;> simp [lc,cE,gE,a0,a1,a2,a3,b0,b1,b2,b3]
theorem zMf:IsC 1 1 (lc 1 [qG.s false 4 3 (cE [1,1,2])]) (cT wR.ad):=by
 intro k hk j hj
 have hk':k=0:=by omega
 have hj':j=0:=by omega
 subst hk' hj'
 rfl
theorem zTc:IsC 2 3 (lc 3 [qG.v (qA (1:Int)),qG.v (qA (0:Int)),qG.v (qA (1:Int)),qG.v (qA (1:Int)),qG.v (qA (0:Int)),qG.v (qA (2:Int))]) (cQ [(1,0,1),(1,0,2)]):=by
 intro k hk j hj
 have hk':k=0∨k=1:=by omega
 have hj':j=0∨j=1∨j=2:=by omega
 rcases hk' with rfl | rfl <;> rcases hj' with rfl | rfl | rfl <;> rfl
theorem zIt(b:Nat):fNg 0 b=(16513537-b%16513537)%16513537:=by
 rw[fNg,if_neg (by rw[qUg]; omega),qTj,qUg]
theorem zBo(a b:Nat):fAd 0 a b=(a+b)%16513537:=by
 rw[fAd,if_neg (by rw[qUg]; omega),qFo,qUg]
theorem zTq(a b:Nat)(ha:a<16513537)(hb:b<16513537):vlR 0 [(3,0,0),(3,0,1)] [a,b] alD.nodes=([a,b,fNg 0 b,fAd 0 a (fNg 0 b)],0):=by
 have ho:zK 0 alD.nodes=true:=by decide
 have hn:fNg 0 b<16513537:=by rw[zIt]; omega
 have hz:fAd 0 a (fNg 0 b)<16513537:=by rw[zBo]; omega
 rw[vlR,if_neg (by rw[qUg]; omega),if_neg (by rw[ho]; simp),if_neg (by simp)]
 have h1:qAz 0 [(3,0,0),(3,0,1)] [a,b] [] ⟨3,0,0,0⟩=some a:=by
  rw[qKq _ _ _ _ (by simp)]; rfl
 have h2:qAz 0 [(3,0,0),(3,0,1)] [a,b] [a] ⟨3,0,1,0⟩=some b:=by
  rw[qKq _ _ _ _ (by simp)]; rfl
 have h3:qAz 0 [(3,0,0),(3,0,1)] [a,b] [a,b] ⟨5,1,0,0⟩=some (fNg 0 b):=qQn _ _ _ _ rfl
 have h4:qAz 0 [(3,0,0),(3,0,1)] [a,b] [a,b,fNg 0 b] ⟨6,0,2,0⟩=some (fAd 0 a (fNg 0 b)):=qQx _ _ _ _ rfl
 have e:yA 0 [(3,0,0),(3,0,1)] [a,b] [] alD.nodes=some [a,b,fNg 0 b,fAd 0 a (fNg 0 b)]:=by
  rw[alD,xP h1,qZk a ha,List.nil_append,xP h2,qZk b hb]
  rw[show[a]++[b]=[a,b] from rfl,xP h3,qZk _ hn,show[a,b]++[fNg 0 b]=[a,b,fNg 0 b] from rfl,xP h4,qZk _ hz,yA]
  rfl
 rw[e]
theorem zQb:qsN [] alD.nodes=[(3,0,0),(3,0,1)]:=by decide +kernel
theorem qPw(r:Int)(a b:Nat)(ha:a<16513537)(hb:b<16513537)(h:atQ wR 3 r [(3,0,0),(3,0,1)]=[a,b]):gE (zT alD wR 0 3 (qsN [] alD.nodes) r) 3=(a+(16513537-b%16513537)%16513537)%16513537:=by
 rw[zT,zQb,h,zTq a b ha hb]
 show fAd 0 a (fNg 0 b)=_
 rw[zBo,zIt]
theorem zIf{v:Nat}(h:v<top)(h2:v≠0):decide (eI v=[(0:Int),(0:Int),(0:Int),(0:Int)])=false :=
 decide_eq_false fun hh=>h2 (zDm h (by simp only[top]; omega) (hh.trans qAk.symm))
theorem dz{x v:Nat}{b:Bool}(e:x=v)(h:decide (eI v=[(0:Int),(0:Int),(0:Int),(0:Int)])=b):decide (eI x=[(0:Int),(0:Int),(0:Int),(0:Int)])=b:=by
 subst e; exact h
theorem zNb:zU alD wR 0 3=([(1,0,1),(1,0,2)],0):=by
 have h1:fE 0=0:=(qBm 0).2 (by rw[qUg]; omega)
 have h2:xK alD 3 wR=0:=by decide +kernel
 have h3:jG alD 3 3=(0,3):=by decide +kernel
 have h4:(usN 3).toNat=4:=by decide +kernel
 have r0:=qPw 0 1 1 (by omega) (by omega) (by decide +kernel)
 have r1:=qPw 1 1 2 (by omega) (by omega) (by decide +kernel)
 have r2:=qPw 2 2 0 (by omega) (by omega) (by decide +kernel)
 have er:qAd alD wR 0 3 4=[zT alD wR 0 3 (qsN [] alD.nodes) 0,zT alD wR 0 3 (qsN [] alD.nodes) 1,zT alD wR 0 3 (qsN [] alD.nodes) 2,zT alD wR 0 3 (qsN [] alD.nodes) 3]:=rfl
 have t0:(2:Nat)<top:=by simp only[top]; omega
 rw[zU,if_neg (fun h=>h h1),if_neg (fun h=>h h2),qJp,h4,er]
 show((wD alD 3 _ 0 [3]++([]++[])),(0:Int))=_
 rw[wD,h3,wD,show((0:Int),(3:Int)).2-((0:Int),(3:Int)).1=3 from rfl,show(3:Int).toNat=3 from rfl,qBx,qBx,qBx,qBx]
 have e0:decide (eI (gE (gT [zT alD wR 0 3 (qsN [] alD.nodes) 0,zT alD wR 0 3 (qsN [] alD.nodes) 1,zT alD wR 0 3 (qsN [] alD.nodes) 2,zT alD wR 0 3 (qsN [] alD.nodes) 3] (Int.toNat 0)) (Int.toNat 3))=[(0:Int),(0:Int),(0:Int),(0:Int)])=true:=by
  exact dz r0 (decide_eq_true qAk)
 have e1:decide (eI (gE (gT [zT alD wR 0 3 (qsN [] alD.nodes) 0,zT alD wR 0 3 (qsN [] alD.nodes) 1,zT alD wR 0 3 (qsN [] alD.nodes) 2,zT alD wR 0 3 (qsN [] alD.nodes) 3] (Int.toNat (0+1))) (Int.toNat 3))=[(0:Int),(0:Int),(0:Int),(0:Int)])=false:=by
  exact dz r1 (zIf (by simp only[top]; omega) (by omega))
 have e2:decide (eI (gE (gT [zT alD wR 0 3 (qsN [] alD.nodes) 0,zT alD wR 0 3 (qsN [] alD.nodes) 1,zT alD wR 0 3 (qsN [] alD.nodes) 2,zT alD wR 0 3 (qsN [] alD.nodes) 3] (Int.toNat (0+1+1))) (Int.toNat 3))=[(0:Int),(0:Int),(0:Int),(0:Int)])=false:=by
  exact dz r2 (zIf (by simp only[top]; omega) (by omega))
 show((bif decide (eI (gE (gT _ (Int.toNat 0)) (Int.toNat 3))=_) then[] else _)++((bif decide (eI (gE (gT _ (Int.toNat (0+1))) (Int.toNat 3))=_) then[] else _)++((bif decide (eI (gE (gT _ (Int.toNat (0+1+1))) (Int.toNat 3))=_) then[] else _)++[]))++[]++([]++[]),(0:Int))=_
 rw[e0,e1,e2]
 rfl
end Go.Pl
namespace Go.Proofs.YtlmjdcbhpffanaaGreat
open Go.Sx Go.Pl
set_option linter.unusedVariables false
set_option maxRecDepth 100000
end Go.Proofs.YtlmjdcbhpffanaaGreat
/- The statements' first line. -/
namespace Go.Proofs.YtlmjdcbhpffanaaGreat
open Go.Sx Go.Pl
set_option linter.unusedVariables false
set_option maxRecDepth 100000
theorem zSb(K:List It→St→Prop)(R:SV→List HO→Prop):W (xwp Tryz.prog X K82 [] 60 (qK Tryz.f18 [] []) [] [.at []] ⟨qR 0 [],[]⟩ K R)=W ((∀ M:Mem,7≤7)∧K [It.ops [0,1,1] 7,.at [1,1,1]] (St.mk [(18,.agg [.v (Value.slice none 0 0),.o 4,.v (Value.slice none 0 0),.v (Value.slice none 0 0)]),(17,.o 4),(16,.o 3),(15,.agg [.v (qC 2),.v (qC 0),.v (qC 0),.v (qC 0)]),(14,.agg [.v (qC 1),.v (qC 0),.v (qC 0),.v (qC 0)]),(13,.agg [.v (qC 1),.v (qC 0),.v (qC 0),.v (qC 0)]),(12,.agg [.v (qA 0),.v (qA 1),.v (qA 0),.o 0,.o 1,.v (Value.slice none 0 0),.v (Value.slice none 0 0)]),(1,.p 2 0),(10,.agg [.v (qA 0),.v (qA 1),.v (qA 0),.o 0,.o 1,.v (Value.slice none 0 0),.v (Value.slice none 0 0)]),(9,.o 1),(8,.o 0),(7,.agg [.v (qA 6),.v (qA 0),.v (qA 2),.v (qC 0),.v (qC 0),.v (qC 0),.v (qC 0)]),(6,.agg [.v (qA 5),.v (qA 1),.v (qA 0),.v (qC 0),.v (qC 0),.v (qC 0),.v (qC 0)]),(5,.agg [.v (qA 3),.v (qA 0),.v (qA 1),.v (qC 0),.v (qC 0),.v (qC 0),.v (qC 0)]),(4,.agg [.v (qA 3),.v (qA 0),.v (qA 0),.v (qC 0),.v (qC 0),.v (qC 0),.v (qC 0)]),(0,.v (.bool false))] [HO.row 109 7 4 [.v (qA 3),.v (qA 0),.v (qA 0),.v (qC 0),.v (qC 0),.v (qC 0),.v (qC 0),.v (qA 3),.v (qA 0),.v (qA 1),.v (qC 0),.v (qC 0),.v (qC 0),.v (qC 0),.v (qA 5),.v (qA 1),.v (qA 0),.v (qC 0),.v (qC 0),.v (qC 0),.v (qC 0),.v (qA 6),.v (qA 0),.v (qA 2),.v (qC 0),.v (qC 0),.v (qC 0),.v (qC 0)],HO.row 3 1 1 [.v (qA 3)],.cells [.v (qA 0),.v (qA 1),.v (qA 0),.o 0,.o 1,.v (Value.slice none 0 0),.v (Value.slice none 0 0)] 27,HO.row 53 4 3 [.v (qC 1),.v (qC 0),.v (qC 0),.v (qC 0),.v (qC 1),.v (qC 0),.v (qC 0),.v (qC 0),.v (qC 2),.v (qC 0),.v (qC 0),.v (qC 0)],HO.row 67 1 1 [.o 3]])):=by kernel_rfl
theorem zQa(K:List It→St→Prop)(R:SV→List HO→Prop):W (xwp Tryz.prog X K82 [] 60 (qK Tryz.f18 [] []) [] (.ops [0,1,1] 7::[.at [1,1,1]]) (St.mk [(18,.agg [.x 0 [],.x 1 [],.x 2 [],.x 3 []]),(12,.agg [.v (qA 0),.v (qA 1),.v (qA 0),.x 4 [],.x 5 [],.x 6 [],.x 7 []]),(0,.v (.bool false))] [.ext false (.s false 1 0 (cT [])),.ext false (.s false 1 1 (lc 1 [.s false 4 3 (cE [1,1,2])])),.ext false (.s false 1 0 (cT [])),.ext false (.s false 4 0 (cP [])),.ext false (.s false 7 4 (lc 7 [.v (qA 3),.v (qA 0),.v (qA 0),.v (qC 0),.v (qC 0),.v (qC 0),.v (qC 0),.v (qA 3),.v (qA 0),.v (qA 1),.v (qC 0),.v (qC 0),.v (qC 0),.v (qC 0),.v (qA 5),.v (qA 1),.v (qA 0),.v (qC 0),.v (qC 0),.v (qC 0),.v (qC 0),.v (qA 6),.v (qA 0),.v (qA 2),.v (qC 0),.v (qC 0),.v (qC 0),.v (qC 0)])),.ext false (.s false 1 1 (lc 1 [.v (qA 3)])),.ext false (.s false 2 0 (cL [])),.ext false (.s false 2 0 (cK []))]) K R)=W (lF (0:Int) (1:Int) (0:Int) 4 1 0 0 0 1 0 0 (lc 7 [.v (qA 3),.v (qA 0),.v (qA 0),.v (qC 0),.v (qC 0),.v (qC 0),.v (qC 0),.v (qA 3),.v (qA 0),.v (qA 1),.v (qC 0),.v (qC 0),.v (qC 0),.v (qC 0),.v (qA 5),.v (qA 1),.v (qA 0),.v (qC 0),.v (qC 0),.v (qC 0),.v (qC 0),.v (qA 6),.v (qA 0),.v (qA 2),.v (qC 0),.v (qC 0),.v (qC 0),.v (qC 0)]) (lc 1 [.v (qA 3)]) (cL []) (cK []) (cT []) (lc 1 [.s false 4 3 (cE [1,1,2])]) (cT []) (cP []) fun(c:Cir) (s:Sht)=>bif(zU c s (0:Int) (3:Int)).2==(0:Int) then lQ2 (List.length (zU c s (0:Int) (3:Int)).1) 2 (cQ (zU c s (0:Int) (3:Int)).1) (lc 3 [.v (qA 1),.v (qA 0),.v (qA 1),.v (qA 1),.v (qA 0),.v (qA 2)]) fun(l l2:List (Int×Int×Int))=>R (.v (.bool (decide (l=l2)))) [] else R (.v (.bool false)) []):=by kernel_rfl
theorem zQq:Tryz.f18.body.isSome=true:=by kernel_rfl
theorem zRf:Nat.ble ([]:List SV).length Tryz.f18.ntmps=true:=by kernel_rfl
theorem zHm{k:Cir→Sht→Prop}(h:k alD wR):lF (0:Int) (1:Int) (0:Int) 4 1 0 0 0 1 0 0 (lc 7 [qG.v (qA (3:Int)),qG.v (qA (0:Int)),qG.v (qA (0:Int)),qG.v (qC (0:Int)),qG.v (qC (0:Int)),qG.v (qC (0:Int)),qG.v (qC (0:Int)),qG.v (qA (3:Int)),qG.v (qA (0:Int)),qG.v (qA (1:Int)),qG.v (qC (0:Int)),qG.v (qC (0:Int)),qG.v (qC (0:Int)),qG.v (qC (0:Int)),qG.v (qA (5:Int)),qG.v (qA (1:Int)),qG.v (qA (0:Int)),qG.v (qC (0:Int)),qG.v (qC (0:Int)),qG.v (qC (0:Int)),qG.v (qC (0:Int)),qG.v (qA (6:Int)),qG.v (qA (0:Int)),qG.v (qA (2:Int)),qG.v (qC (0:Int)),qG.v (qC (0:Int)),qG.v (qC (0:Int)),qG.v (qC (0:Int))]) (lc 1 [qG.v (qA (3:Int))]) (cL []) (cK []) (cT []) (lc 1 [qG.s false 4 3 (cE [1,1,2])]) (cT []) (cP []) k:=by
 have:=qDs alD zJc wR zFx h
 obtain⟨c,e1,e2,e3,⟨n0,i0⟩,⟨n1,i1⟩,r2,r3,hk,ht2⟩:=this.h.h
 obtain⟨s,q0,⟨m1,j1⟩,q2,q3,hs,hq⟩:=ht2.h
 exact⟨⟨c,e1,e2,e3,⟨n0,zTp.trans i0⟩,⟨n1,zSo.trans i1⟩,r2,r3,hk,⟨⟨s,q0,⟨m1,zMf.trans j1⟩,q2,q3,hs,hq⟩⟩⟩⟩
theorem zGb(Q:SV→List HO→Prop)(hq:Q (.v (.bool true)) []):qI Tryz.prog 18 [] [] Q:=by
 refine qJ Tryz.func18 zQq ?_ ?_
 ·exact zRf
 refine qD hm 60 ((zSb _ _).mpr ⟨And.intro (fun _=>Nat.le_refl 7) ?_⟩)
 refine FOk.norm (ks:=[18,12,0]) (nl:=[]) (st':=(St.mk [(18,SV.agg [SV.v (Value.slice none 0 0),SV.o 0,SV.v (Value.slice none 0 0),SV.v (Value.slice none 0 0)]),(12,SV.agg [SV.v (qA (0:Int)),SV.v (qA (1:Int)),SV.v (qA (0:Int)),SV.o 1,SV.o 2,SV.v (Value.slice none 0 0),SV.v (Value.slice none 0 0)]),(0,SV.v (Value.bool false))] [HO.row 67 1 1 [SV.o 3],HO.rowc 109 7 4 (Ct.lit 7 [qG.v (qA (3:Int)),qG.v (qA (0:Int)),qG.v (qA (0:Int)),qG.v (qC (0:Int)),qG.v (qC (0:Int)),qG.v (qC (0:Int)),qG.v (qC (0:Int)),qG.v (qA (3:Int)),qG.v (qA (0:Int)),qG.v (qA (1:Int)),qG.v (qC (0:Int)),qG.v (qC (0:Int)),qG.v (qC (0:Int)),qG.v (qC (0:Int)),qG.v (qA (5:Int)),qG.v (qA (1:Int)),qG.v (qA (0:Int)),qG.v (qC (0:Int)),qG.v (qC (0:Int)),qG.v (qC (0:Int)),qG.v (qC (0:Int)),qG.v (qA (6:Int)),qG.v (qA (0:Int)),qG.v (qA (2:Int)),qG.v (qC (0:Int)),qG.v (qC (0:Int)),qG.v (qC (0:Int)),qG.v (qC (0:Int))]),HO.rowc 3 1 1 (Ct.lit 1 [qG.v (qA (3:Int))]),HO.rowc 53 4 3 (Ct.lit 4 [qG.v (qC (1:Int)),qG.v (qC (0:Int)),qG.v (qC (0:Int)),qG.v (qC (0:Int)),qG.v (qC (1:Int)),qG.v (qC (0:Int)),qG.v (qC (0:Int)),qG.v (qC (0:Int)),qG.v (qC (2:Int)),qG.v (qC (0:Int)),qG.v (qC (0:Int)),qG.v (qC (0:Int))])])) (by kernel_rfl) ?_
 refine FOk.cv (h':=(St.heap (St.mk [(18,SV.agg [SV.v (Value.slice none 0 0),SV.o 0,SV.v (Value.slice none 0 0),SV.v (Value.slice none 0 0)]),(12,SV.agg [SV.v (qA (0:Int)),SV.v (qA (1:Int)),SV.v (qA (0:Int)),SV.o 1,SV.o 2,SV.v (Value.slice none 0 0),SV.v (Value.slice none 0 0)]),(0,SV.v (Value.bool false))] [HO.row 67 1 1 [SV.o 3],HO.rowc 109 7 4 (Ct.lit 7 [qG.v (qA (3:Int)),qG.v (qA (0:Int)),qG.v (qA (0:Int)),qG.v (qC (0:Int)),qG.v (qC (0:Int)),qG.v (qC (0:Int)),qG.v (qC (0:Int)),qG.v (qA (3:Int)),qG.v (qA (0:Int)),qG.v (qA (1:Int)),qG.v (qC (0:Int)),qG.v (qC (0:Int)),qG.v (qC (0:Int)),qG.v (qC (0:Int)),qG.v (qA (5:Int)),qG.v (qA (1:Int)),qG.v (qA (0:Int)),qG.v (qC (0:Int)),qG.v (qC (0:Int)),qG.v (qC (0:Int)),qG.v (qC (0:Int)),qG.v (qA (6:Int)),qG.v (qA (0:Int)),qG.v (qA (2:Int)),qG.v (qC (0:Int)),qG.v (qC (0:Int)),qG.v (qC (0:Int)),qG.v (qC (0:Int))]),HO.rowc 3 1 1 (Ct.lit 1 [qG.v (qA (3:Int))]),HO.rowc 53 4 3 (Ct.fn (cE [1,1,2]))]))) ?_ ⟨HE.refl _,HE.refl _,HE.refl _,⟨rfl,rfl,rfl,zMw⟩,trivial⟩
 refine FOk.frzH 3 rfl ?_
 refine FOk.norm (ks:=[18,12,0]) (nl:=[]) (st':=(St.mk [(18,SV.agg [SV.v (Value.slice none 0 0),SV.o 0,SV.v (Value.slice none 0 0),SV.v (Value.slice none 0 0)]),(12,SV.agg [SV.v (qA (0:Int)),SV.v (qA (1:Int)),SV.v (qA (0:Int)),SV.o 1,SV.o 2,SV.v (Value.slice none 0 0),SV.v (Value.slice none 0 0)]),(0,SV.v (Value.bool false))] [HO.rowc 67 1 1 (Ct.lit 1 [qG.s false 4 3 (cE [1,1,2])]),HO.rowc 109 7 4 (Ct.lit 7 [qG.v (qA (3:Int)),qG.v (qA (0:Int)),qG.v (qA (0:Int)),qG.v (qC (0:Int)),qG.v (qC (0:Int)),qG.v (qC (0:Int)),qG.v (qC (0:Int)),qG.v (qA (3:Int)),qG.v (qA (0:Int)),qG.v (qA (1:Int)),qG.v (qC (0:Int)),qG.v (qC (0:Int)),qG.v (qC (0:Int)),qG.v (qC (0:Int)),qG.v (qA (5:Int)),qG.v (qA (1:Int)),qG.v (qA (0:Int)),qG.v (qC (0:Int)),qG.v (qC (0:Int)),qG.v (qC (0:Int)),qG.v (qC (0:Int)),qG.v (qA (6:Int)),qG.v (qA (0:Int)),qG.v (qA (2:Int)),qG.v (qC (0:Int)),qG.v (qC (0:Int)),qG.v (qC (0:Int)),qG.v (qC (0:Int))]),HO.rowc 3 1 1 (Ct.lit 1 [qG.v (qA (3:Int))])])) (by kernel_rfl) ?_
 refine FOk.frz 0 rfl (FOk.frz 1 rfl (FOk.frz 2 rfl ?_))
 refine FOk.norm (ks:=[18,12,0]) (nl:=[]) (st':=(St.mk [(18,SV.agg [SV.v (Value.slice none 0 0),SV.x 0 [],SV.v (Value.slice none 0 0),SV.v (Value.slice none 0 0)]),(12,SV.agg [SV.v (qA (0:Int)),SV.v (qA (1:Int)),SV.v (qA (0:Int)),SV.x 1 [],SV.x 2 [],SV.v (Value.slice none 0 0),SV.v (Value.slice none 0 0)]),(0,SV.v (Value.bool false))] [HO.ext false (qG.s false 1 1 (lc 1 [qG.s false 4 3 (cE [1,1,2])])),HO.ext false (qG.s false 7 4 (lc 7 [qG.v (qA (3:Int)),qG.v (qA (0:Int)),qG.v (qA (0:Int)),qG.v (qC (0:Int)),qG.v (qC (0:Int)),qG.v (qC (0:Int)),qG.v (qC (0:Int)),qG.v (qA (3:Int)),qG.v (qA (0:Int)),qG.v (qA (1:Int)),qG.v (qC (0:Int)),qG.v (qC (0:Int)),qG.v (qC (0:Int)),qG.v (qC (0:Int)),qG.v (qA (5:Int)),qG.v (qA (1:Int)),qG.v (qA (0:Int)),qG.v (qC (0:Int)),qG.v (qC (0:Int)),qG.v (qC (0:Int)),qG.v (qC (0:Int)),qG.v (qA (6:Int)),qG.v (qA (0:Int)),qG.v (qA (2:Int)),qG.v (qC (0:Int)),qG.v (qC (0:Int)),qG.v (qC (0:Int)),qG.v (qC (0:Int))])),HO.ext false (qG.s false 1 1 (lc 1 [qG.v (qA (3:Int))]))])) (by kernel_rfl) ?_
 refine FOk.nilA 12 5 2 (cL []) rfl rfl (FOk.nilA 12 6 2 (cK []) rfl rfl (FOk.nilA 18 0 1 (cT []) rfl rfl (FOk.nilA 18 2 1 (cT []) rfl rfl (FOk.nilA 18 3 4 (cP []) rfl rfl ?_))))
 refine FOk.norm (ks:=[18,12,0]) (nl:=[]) (st':=(St.mk [(18,SV.agg [SV.x 0 [],SV.x 1 [],SV.x 2 [],SV.x 3 []]),(12,SV.agg [SV.v (qA (0:Int)),SV.v (qA (1:Int)),SV.v (qA (0:Int)),SV.x 4 [],SV.x 5 [],SV.x 6 [],SV.x 7 []]),(0,SV.v (Value.bool false))] [HO.ext false (qG.s false 1 0 (cT [])),HO.ext false (qG.s false 1 1 (lc 1 [qG.s false 4 3 (cE [1,1,2])])),HO.ext false (qG.s false 1 0 (cT [])),HO.ext false (qG.s false 4 0 (cP [])),HO.ext false (qG.s false 7 4 (lc 7 [qG.v (qA (3:Int)),qG.v (qA (0:Int)),qG.v (qA (0:Int)),qG.v (qC (0:Int)),qG.v (qC (0:Int)),qG.v (qC (0:Int)),qG.v (qC (0:Int)),qG.v (qA (3:Int)),qG.v (qA (0:Int)),qG.v (qA (1:Int)),qG.v (qC (0:Int)),qG.v (qC (0:Int)),qG.v (qC (0:Int)),qG.v (qC (0:Int)),qG.v (qA (5:Int)),qG.v (qA (1:Int)),qG.v (qA (0:Int)),qG.v (qC (0:Int)),qG.v (qC (0:Int)),qG.v (qC (0:Int)),qG.v (qC (0:Int)),qG.v (qA (6:Int)),qG.v (qA (0:Int)),qG.v (qA (2:Int)),qG.v (qC (0:Int)),qG.v (qC (0:Int)),qG.v (qC (0:Int)),qG.v (qC (0:Int))])),HO.ext false (qG.s false 1 1 (lc 1 [qG.v (qA (3:Int))])),HO.ext false (qG.s false 2 0 (cL [])),HO.ext false (qG.s false 2 0 (cK []))])) (by kernel_rfl) ?_
 refine qD hm 60 ((zQa _ _).mpr ⟨zHm ?_⟩)
 rw[zNb]
 refine⟨⟨_,[(1,0,1),(1,0,2)],rfl,IsC.refl _ _ _,rfl,zTc,by decide,?_⟩⟩
 rw[decide_eq_true rfl]
 exact hq
noncomputable def zDu:List SV→List HO→Option ((SV→List HO→Prop)→Prop)
 | [],[]=>some fun Q=>Q (.v (.bool true)) []
 | _,_=>none
theorem zFd(args:List SV)(h:List HO)(tr:(SV→List HO→Prop)→Prop)(Q:SV→List HO→Prop)(hc:zDu args h=some tr)(ht:tr Q):qI Tryz.prog 18 args h Q:=by
 unfold zDu at hc
 split at hc
 ·simp only[sI] at hc
  subst hc
  exact zGb Q ht
 ·cases hc
noncomputable def K83:Con Tryz.prog:=K82.add 18 zDu zFd
end Go.Proofs.YtlmjdcbhpffanaaGreat
/- The document's Fit. -/
namespace Go.Proofs.YtlmjdcbhpffanaaGreat
open Go.Sx Go.Pl
set_option linter.unusedVariables false
set_option maxRecDepth 100000
theorem zUf(c:Cir)(s:Sht)(k:Int)(K:List It→St→Prop)(R:SV→List HO→Prop):W (xwp Tryz.prog X K88 [] 60 (qK Tryz.f22 [([0,1,1,0,0,1,0,0,1,0,1,1,1,1,1,1],3)] [⟨[0,1,0,1,1,1,1,1,1],[9,8,5,3],[]⟩]) [] [.at []] ⟨qR 0 [.agg [.v (.int .i64 c.fx),.v (.int .i64 c.ad),.v (.int .i64 c.ins),.x 0 [],.x 1 [],.x 2 [],.x 3 []],.v (.int .i64 k),.agg [.x 4 [],.x 5 [],.x 6 [],.x 7 []]],[.ext false (.s false 7 c.nodes.length (cN c.nodes)),.ext false (.s false 1 c.gates.length (cI c.gates)),.ext false (.s false 2 c.looks.length (cL c.looks)),.ext false (.s false 2 c.eqs.length (cK c.eqs)),.ext false (.s false 1 s.fx.length (cT s.fx)),.ext false (.s false 1 s.ad.length (cT s.ad)),.ext false (.s false 1 s.is.length (cT s.is)),.ext false (.s false 4 s.cp.length (cP s.cp))]⟩ K R)=W (lC c.1 c.2 c.3 c.4.length c.5.length c.6.length c.7.length (cN c.4) (cI c.5) (cL c.6) (cK c.7) fun(c_1:Cir)=>bif !zY c_1==(0:Int) then R (.v (qA (zY c_1))) [] else bif decide (k<(3:Int)) then R (.v (qA 60)) [] else bif decide ((5:Int)<k) then R (.v (qA 60)) [] else lT s.1.length (cT s.1) fun(l:List (List Nat))=>bif !!wrT c.1 (usN k) l then R (.v (qA 130)) [] else lT s.2.length (cT s.2) fun(l:List (List Nat))=>bif !!wrT c.2 (usN k) l then R (.v (qA 130)) [] else lT s.3.length (cT s.3) fun(l:List (List Nat))=>bif !!wrT c.3 (usN k) l then R (.v (qA 130)) [] else bif decide ((256:Int)<(↑s.4.length:Int)) then R (.v (qA 130)) [] else K [.at [0,1,0,1,1,1,1,1,1],.blk 0,.at [1,1,1,1,1,1,1]] (St.mk [(9,.v (qA 0)),(8,.v (qA (usN k))),(5,.p 0 0),(3,.p 1 0)] [.cells [.x 2 [],.x 3 [],.x 4 [],.x 5 []] 42,.cells [.v (qA c.1),.v (qA c.2),.v (qA c.3),.x 6 [],.x 7 [],.x 8 [],.x 9 []] 27,.ext false (.s false 1 s.1.length (cT s.1)),.ext false (.s false 1 s.2.length (cT s.2)),.ext false (.s false 1 s.3.length (cT s.3)),.ext false (.s false 4 s.4.length (cP s.4)),.ext false (.s false 7 c.4.length (cN c.4)),.ext false (.s false 1 c.5.length (cI c.5)),.ext false (.s false 2 c.6.length (cL c.6)),.ext false (.s false 2 c.7.length (cK c.7))])):=by kernel_rfl
theorem zRj(c:Cir)(s:Sht)(u:Int)(i M:Nat)(K:List It→St→Prop)(R:SV→List HO→Prop):W (xwp Tryz.prog X K88 [] 60 (qK Tryz.f22 [([0,1,1,0,0,1,0,0,1,0,1,1,1,1,1,1],3)] [⟨[0,1,0,1,1,1,1,1,1],[9,8,5,3],[]⟩]) [] (.at [0,0,1,0,1,1,1,1,1,1]::.rnd [0,0,1,0,1,1,1,1,1,1] M::[.blk 0,.at [1,1,1,1,1,1,1]]) (St.mk [(9,.v (qA (i:Int))),(8,.v (qA u)),(5,.p 0 0),(3,.p 1 0)] [.cells [.x 2 [],.x 3 [],.x 4 [],.x 5 []] 42,.cells [.v (qA c.1),.v (qA c.2),.v (qA c.3),.x 6 [],.x 7 [],.x 8 [],.x 9 []] 27,.ext false (.s false 1 s.1.length (cT s.1)),.ext false (.s false 1 s.2.length (cT s.2)),.ext false (.s false 1 s.3.length (cT s.3)),.ext false (.s false 4 s.4.length (cP s.4)),.ext false (.s false 7 c.4.length (cN c.4)),.ext false (.s false 1 c.5.length (cI c.5)),.ext false (.s false 2 c.6.length (cL c.6)),.ext false (.s false 2 c.7.length (cK c.7))]) K R)=W (bif decide ((↑i:Int)<(↑s.4.length:Int)) then(∀ M:Mem,(0:Int)≤(↑i:Int)∧(↑i:Int)<(↑s.4.length:Int))∧(∀ M:Mem,i<List.length s.4)∧(∀ M:Mem,i<List.length s.4)∧(∀ M:Mem,(0:Int)≤(↑i:Int)∧(↑i:Int)<(↑s.4.length:Int))∧(∀ M:Mem,i<List.length s.4)∧(∀ M:Mem,i<List.length s.4)∧(∀ M:Mem,0+4≤4)∧(∀ M:Mem,(0:Int)≤(0:Int)∧(0:Int)<(2:Int))∧bif decide ((gP s.4 i).1<(0:Int)) then R (.v (qA 130)) [] else(∀ M:Mem,(0:Int)≤(0:Int)∧(0:Int)<(2:Int))∧bif decide ((↑c.7.length:Int)≤(gP s.4 i).1) then R (.v (qA 130)) [] else(∀ M:Mem,(0:Int)≤(0:Int)∧(0:Int)<(2:Int))∧bif decide ((gP s.4 i).2.1<(0:Int)) then R (.v (qA 130)) [] else(∀ M:Mem,(0:Int)≤(0:Int)∧(0:Int)<(2:Int))∧bif decide (u≤(gP s.4 i).2.1) then R (.v (qA 130)) [] else(∀ M:Mem,(0:Int)≤(1:Int)∧(1:Int)<(2:Int))∧bif decide ((gP s.4 i).2.2.1<(0:Int)) then R (.v (qA 130)) [] else(∀ M:Mem,(0:Int)≤(1:Int)∧(1:Int)<(2:Int))∧bif decide ((↑c.7.length:Int)≤(gP s.4 i).2.2.1) then R (.v (qA 130)) [] else(∀ M:Mem,(0:Int)≤(1:Int)∧(1:Int)<(2:Int))∧bif decide ((gP s.4 i).2.2.2<(0:Int)) then R (.v (qA 130)) [] else(∀ M:Mem,(0:Int)≤(1:Int)∧(1:Int)<(2:Int))∧bif decide (u≤(gP s.4 i).2.2.2) then R (.v (qA 130)) [] else K [.rnd [0,0,1,0,1,1,1,1,1,1] M,.blk 0,.at [1,1,1,1,1,1,1]] (St.mk [(9,.v (qA (IntKind.wrap .i64 ((↑i:Int)+(1:Int))))),(8,.v (qA u)),(5,.p 0 0),(3,.p 1 0)] [.cells [.x 2 [],.x 3 [],.x 4 [],.x 5 []] 42,.cells [.v (qA c.1),.v (qA c.2),.v (qA c.3),.x 6 [],.x 7 [],.x 8 [],.x 9 []] 27,.ext false (.s false 1 s.1.length (cT s.1)),.ext false (.s false 1 s.2.length (cT s.2)),.ext false (.s false 1 s.3.length (cT s.3)),.ext false (.s false 4 s.4.length (cP s.4)),.ext false (.s false 7 c.4.length (cN c.4)),.ext false (.s false 1 c.5.length (cI c.5)),.ext false (.s false 2 c.6.length (cL c.6)),.ext false (.s false 2 c.7.length (cK c.7))]) else R (.v (qA 0)) []):=by kernel_rfl
theorem qUn(c:Cir)(s:Sht)(u:Int)(hp:s.cp.length≤256)(Q:SV→List HO→Prop)(hq1:s.cp.any (qJj c.eqs.length u)=true→Q (.v (qA 130)) [])(hq0:s.cp.any (qJj c.eqs.length u)=false→Q (.v (qA 0)) []):∀(d i:Nat),i+d=s.cp.length→(s.cp.take i).any (qJj c.eqs.length u)=false →
    FOk Tryz.prog Tryz.f22 Q (.rnd [0,0,1,0,1,1,1,1,1,1] (d+1)::[.blk 0,.at [1,1,1,1,1,1,1]]) (St.mk [(9,SV.v (qA (i:Int))),(8,SV.v (qA u)),(5,SV.p 0 0),(3,SV.p 1 0)] [HO.cells [SV.x 2 [],SV.x 3 [],SV.x 4 [],SV.x 5 []] 42,HO.cells [SV.v (qA c.1),SV.v (qA c.2),SV.v (qA c.3),SV.x 6 [],SV.x 7 [],SV.x 8 [],SV.x 9 []] 27,HO.ext false (qG.s false 1 (List.length s.1) (cT s.1)),HO.ext false (qG.s false 1 (List.length s.2) (cT s.2)),HO.ext false (qG.s false 1 (List.length s.3) (cT s.3)),HO.ext false (qG.s false 4 (List.length s.4) (cP s.4)),HO.ext false (qG.s false 7 (List.length c.4) (cN c.4)),HO.ext false (qG.s false 1 (List.length c.5) (cI c.5)),HO.ext false (qG.s false 2 (List.length c.6) (cL c.6)),HO.ext false (qG.s false 2 (List.length c.7) (cK c.7))])
  | 0,i,hd,he=>by
    refine FOk.rnd (qD hm 60 ((zRj c s u i 0 _ _).mpr ⟨?_⟩))
    rw[qF,if_neg (by omega)]
    rw[List.take_of_length_le (by omega)] at he
    exact hq0 he
  | d+1,i,hd,he=>by
    have hi:i<s.cp.length:=by omega
    have bad:((gP s.cp i).1<0∨(c.eqs.length:Int)≤(gP s.cp i).1∨(gP s.cp i).2.1<0∨u≤(gP s.cp i).2.1)∨((gP s.cp i).2.2.1<0∨(c.eqs.length:Int)≤(gP s.cp i).2.2.1∨(gP s.cp i).2.2.2<0∨u≤(gP s.cp i).2.2.2)→Q (.v (qA 130)) []:=fun h=>by
      refine hq1 (List.any_eq_true.2 ⟨_,qWy hi,?_⟩)
      rw[qJj,Bool.or_eq_true]
      exact h.imp (fun h=>decide_eq_true h) (fun h=>decide_eq_true h)
    refine FOk.rnd (qD hm 60 ((zRj c s u i (d+1) _ _).mpr ⟨?_⟩))
    rw[qF,if_pos (by omega),qL _ (by omega)]
    refine aI (aI (aI (aI (aI (aI (aI (?_)))))))
    simp only[qF]
    repeat' (first | refine And.intro (fun _=>by omega) ?_ | refine qE (fun h=>?_) (fun h=>?_))
    all_goals first
      | exact bad (by omega)
      | (refine qUn c s u hp Q hq1 hq0 d (i+1) (by omega) ?_
         rw[zHw hi,List.any_append,he,List.any_cons,qJj,qCm,qCm,decide_eq_false (by omega),decide_eq_false (by omega)]
         rfl)
theorem zXh:Tryz.f22.body.isSome=true:=by kernel_rfl
theorem zWp(c:Cir)(k:Int):Nat.ble ([.agg [.v (.int .i64 c.fx),.v (.int .i64 c.ad),.v (.int .i64 c.ins),.x 0 [],.x 1 [],.x 2 [],.x 3 []],.v (.int .i64 k),.agg [.x 4 [],.x 5 [],.x 6 [],.x 7 []]]:List SV).length Tryz.f22.ntmps=true:=by kernel_rfl
theorem zJh(c:Cir)(hc:c.ok)(s:Sht)(hs:s.ok)(k:Int)(Q:SV→List HO→Prop)(hq:Q (.v (.int .i64 (xK c k s))) []):qI Tryz.prog 22 [.agg [.v (.int .i64 c.fx),.v (.int .i64 c.ad),.v (.int .i64 c.ins),.x 0 [],.x 1 [],.x 2 [],.x 3 []],.v (.int .i64 k),.agg [.x 4 [],.x 5 [],.x 6 [],.x 7 []]] [.ext false (.s false 7 c.nodes.length (cN c.nodes)),.ext false (.s false 1 c.gates.length (cI c.gates)),.ext false (.s false 2 c.looks.length (cL c.looks)),.ext false (.s false 2 c.eqs.length (cK c.eqs)),.ext false (.s false 1 s.fx.length (cT s.fx)),.ext false (.s false 1 s.ad.length (cT s.ad)),.ext false (.s false 1 s.is.length (cT s.is)),.ext false (.s false 4 s.cp.length (cP s.cp))] Q:=by
 refine qJ Tryz.func22 zXh ?_ ?_
 ·exact zWp c k
 refine qD hm 60 ((zUf c s k _ _).mpr ⟨?_⟩)
 rw[xK] at hq
 refine wS c hc ?_
 rw[qN,qT]
 refine qE (fun h0=>?_) (fun h0=>by rw[if_pos h0] at hq; exact hq)
 rw[if_neg (fun h=>h h0)] at hq
 rw[qF,qF]
 refine qE (fun h1=>by rw[if_pos h1] at hq; exact hq) (fun h1=>qE (fun h2=>by rw[if_neg h1,if_pos h2] at hq; exact hq) (fun h2=>?_))
 rw[if_neg h1,if_neg h2] at hq
 refine qCp hs.f ?_
 rw[Bool.not_not]
 refine qM (fun e=>by rw[if_pos e] at hq; exact hq) (fun e=>?_)
 rw[if_neg (by rw[e]; exact Bool.false_ne_true)] at hq
 refine qCp hs.a ?_
 rw[Bool.not_not]
 refine qM (fun e=>by rw[if_pos e] at hq; exact hq) (fun e=>?_)
 rw[if_neg (by rw[e]; exact Bool.false_ne_true)] at hq
 refine qCp hs.i ?_
 rw[Bool.not_not]
 refine qM (fun e=>by rw[if_pos e] at hq; exact hq) (fun e=>?_)
 rw[if_neg (by rw[e]; exact Bool.false_ne_true),wrP] at hq
 refine qM (fun e=>?_) (fun e=>?_)
 ·rw[e] at hq; exact hq
 rw[e,Bool.false_or] at hq
 have hp:s.cp.length≤256:=by have:=of_decide_eq_false e; omega
 exact FOk.loop (s.cp.length+1) (by kernel_rfl) (qUn c s (usN k) hp Q (fun h=>by rw[if_pos h] at hq; exact hq) (fun h=>by rw[if_neg (by rw[h]; exact Bool.false_ne_true)] at hq; exact hq) s.cp.length 0 (by omega) rfl)
noncomputable def zNd:List SV→List HO→Option ((SV→List HO→Prop)→Prop)
 | [.agg [.v (.int .i64 fx),.v (.int .i64 ad),.v (.int .i64 ins),.x 0 [],.x 1 [],.x 2 [],.x 3 []],.v (.int .i64 k),.agg [.x 4 [],.x 5 [],.x 6 [],.x 7 []]],[.ext false (.s false 7 n0 c0),.ext false (.s false 1 n1 c1),.ext false (.s false 2 n2 c2),.ext false (.s false 2 n3 c3),.ext false (.s false 1 m0 d0),.ext false (.s false 1 m1 d1),.ext false (.s false 1 m2 d2),.ext false (.s false 4 m3 d3)] =>
  some fun Q=>lF fx ad ins n0 n1 n2 n3 m0 m1 m2 m3 c0 c1 c2 c3 d0 d1 d2 d3 fun c s=>Q (.v (.int .i64 (xK c k s))) []
 | _,_=>none
theorem zGn(args:List SV)(h:List HO)(tr:(SV→List HO→Prop)→Prop)(Q:SV→List HO→Prop)(hc:zNd args h=some tr)(ht:tr Q):qI Tryz.prog 22 args h Q:=by
 unfold zNd at hc
 split at hc
 ·simp only[sI] at hc
  subst hc
  obtain⟨c,rfl,rfl,rfl,⟨rfl,e0⟩,⟨rfl,e1⟩,⟨rfl,e2⟩,⟨rfl,e3⟩,hk,ht2⟩:=ht.h.h
  obtain⟨s,⟨rfl,e4⟩,⟨rfl,e5⟩,⟨rfl,e6⟩,⟨rfl,e7⟩,hs,hq⟩:=ht2.h
  exact qI.ac (zJh c hk s hs _ Q hq) ⟨⟨rfl,rfl,rfl,rfl,e0⟩,⟨rfl,rfl,rfl,rfl,e1⟩,⟨rfl,rfl,rfl,rfl,e2⟩,⟨rfl,rfl,rfl,rfl,e3⟩,⟨rfl,rfl,rfl,rfl,e4⟩,⟨rfl,rfl,rfl,rfl,e5⟩,⟨rfl,rfl,rfl,rfl,e6⟩,⟨rfl,rfl,rfl,rfl,e7⟩,trivial⟩
 ·cases hc
noncomputable def K89:Con Tryz.prog:=((K83.add 24 zIa qZf).add 57 zGf qYc).add 22 zNd zGn
end Go.Proofs.YtlmjdcbhpffanaaGreat
/- Circuits, tables of the same contents. -/
namespace Go.Proofs.YtlmjdcbhpffanaaGreat
open Go.Sx Go.Pl
set_option linter.unusedVariables false
set_option maxRecDepth 100000
theorem sc1(c d:Cir)(k M:Nat)(K:List It→St→Prop)(R:SV→List HO→Prop):W (xwp Tryz.prog X K89 [] 60 (qK Tryz.f16 [] [⟨[0,1,0,1,1],[5,2,3],[]⟩,⟨[0,1,0,1,1,1],[6,2,3],[]⟩]) [] (.at [0,0,1,0,1,1]::.rnd [0,0,1,0,1,1] M::[.blk 0,.at [1,1,1]]) ⟨[(5,.v (.int .i64 (k:Int))),(2,.p 0 0),(3,.p 1 0)],[.cells [.v (.int .i64 c.fx),.v (.int .i64 c.ad),.v (.int .i64 c.ins),.x 2 [],.x 3 [],.x 4 [],.x 5 []] 27,.cells [.v (.int .i64 d.fx),.v (.int .i64 d.ad),.v (.int .i64 d.ins),.x 6 [],.x 7 [],.x 8 [],.x 9 []] 27,.ext false (.s false 7 c.nodes.length (cN c.nodes)),.ext false (.s false 1 c.gates.length (cI c.gates)),.ext false (.s false 2 c.looks.length (cL c.looks)),.ext false (.s false 2 c.eqs.length (cK c.eqs)),.ext false (.s false 7 d.nodes.length (cN d.nodes)),.ext false (.s false 1 d.gates.length (cI d.gates)),.ext false (.s false 2 d.looks.length (cL d.looks)),.ext false (.s false 2 d.eqs.length (cK d.eqs))]⟩ K R)=W (bif decide ((↑k:Int)<(↑c.6.length:Int)) then(∀ M:Mem,(0:Int)≤(↑k:Int)∧(↑k:Int)<(↑c.6.length:Int))∧(∀ M:Mem,k<List.length c.6)∧(∀ M:Mem,k<List.length c.6)∧(∀ M:Mem,(0:Int)≤(↑k:Int)∧(↑k:Int)<(↑d.6.length:Int))∧(∀ M:Mem,k<List.length d.6)∧(∀ M:Mem,k<List.length d.6)∧(∀ M:Mem,k<List.length c.6)∧(∀ M:Mem,k<List.length d.6)∧lI2 (List.length (gL c.6 k).1) (List.length (gL d.6 k).1) (cI (gL c.6 k).1) (cI (gL d.6 k).1) fun(l l2:List Int)=>bif !decide (l=l2) then R (.v (.bool false)) [] else(∀ M:Mem,(0:Int)≤(↑k:Int)∧(↑k:Int)<(↑c.6.length:Int))∧(∀ M:Mem,k<List.length c.6)∧(∀ M:Mem,k<List.length c.6)∧(∀ M:Mem,(0:Int)≤(↑k:Int)∧(↑k:Int)<(↑d.6.length:Int))∧(∀ M:Mem,k<List.length d.6)∧(∀ M:Mem,k<List.length d.6)∧(∀ M:Mem,k<List.length c.6)∧(∀ M:Mem,k<List.length d.6)∧lI2 (List.length (gL c.6 k).2) (List.length (gL d.6 k).2) (cI (gL c.6 k).2) (cI (gL d.6 k).2) fun(l l2:List Int)=>bif !decide (l=l2) then R (.v (.bool false)) [] else K [.rnd [0,0,1,0,1,1] M,.blk 0,.at [1,1,1]] (St.mk [(5,.v (qA (IntKind.wrap .i64 ((↑k:Int)+(1:Int))))),(2,.p 0 0),(3,.p 1 0)] [.cells [.v (qA c.1),.v (qA c.2),.v (qA c.3),.x 2 [],.x 3 [],.x 4 [],.x 5 []] 27,.cells [.v (qA d.1),.v (qA d.2),.v (qA d.3),.x 6 [],.x 7 [],.x 8 [],.x 9 []] 27,.ext false (.s false 7 c.4.length (cN c.4)),.ext false (.s false 1 c.5.length (cI c.5)),.ext false (.s false 2 c.6.length (cL c.6)),.ext false (.s false 2 c.7.length (cK c.7)),.ext false (.s false 7 d.4.length (cN d.4)),.ext false (.s false 1 d.5.length (cI d.5)),.ext false (.s false 2 d.6.length (cL d.6)),.ext false (.s false 2 d.7.length (cK d.7))]) else K [.at [0,1,0,1,1,1],.blk 2,.at [1,1,1,1]] (St.mk [(6,.v (qA 0)),(2,.p 0 0),(3,.p 1 0)] [.cells [.v (qA c.1),.v (qA c.2),.v (qA c.3),.x 2 [],.x 3 [],.x 4 [],.x 5 []] 27,.cells [.v (qA d.1),.v (qA d.2),.v (qA d.3),.x 6 [],.x 7 [],.x 8 [],.x 9 []] 27,.ext false (.s false 7 c.4.length (cN c.4)),.ext false (.s false 1 c.5.length (cI c.5)),.ext false (.s false 2 c.6.length (cL c.6)),.ext false (.s false 2 c.7.length (cK c.7)),.ext false (.s false 7 d.4.length (cN d.4)),.ext false (.s false 1 d.5.length (cI d.5)),.ext false (.s false 2 d.6.length (cL d.6)),.ext false (.s false 2 d.7.length (cK d.7))])):=by kernel_rfl
theorem sc2(c d:Cir)(k M:Nat)(K:List It→St→Prop)(R:SV→List HO→Prop):W (xwp Tryz.prog X K89 [] 60 (qK Tryz.f16 [] [⟨[0,1,0,1,1],[5,2,3],[]⟩,⟨[0,1,0,1,1,1],[6,2,3],[]⟩]) [] (.at [0,0,1,0,1,1,1]::.rnd [0,0,1,0,1,1,1] M::[.blk 2,.at [1,1,1,1]]) ⟨[(6,.v (.int .i64 (k:Int))),(2,.p 0 0),(3,.p 1 0)],[.cells [.v (.int .i64 c.fx),.v (.int .i64 c.ad),.v (.int .i64 c.ins),.x 2 [],.x 3 [],.x 4 [],.x 5 []] 27,.cells [.v (.int .i64 d.fx),.v (.int .i64 d.ad),.v (.int .i64 d.ins),.x 6 [],.x 7 [],.x 8 [],.x 9 []] 27,.ext false (.s false 7 c.nodes.length (cN c.nodes)),.ext false (.s false 1 c.gates.length (cI c.gates)),.ext false (.s false 2 c.looks.length (cL c.looks)),.ext false (.s false 2 c.eqs.length (cK c.eqs)),.ext false (.s false 7 d.nodes.length (cN d.nodes)),.ext false (.s false 1 d.gates.length (cI d.gates)),.ext false (.s false 2 d.looks.length (cL d.looks)),.ext false (.s false 2 d.eqs.length (cK d.eqs))]⟩ K R)=W (bif decide ((↑k:Int)<(↑c.7.length:Int)) then(∀ M:Mem,(0:Int)≤(↑k:Int)∧(↑k:Int)<(↑c.7.length:Int))∧(∀ M:Mem,k<List.length c.7)∧(∀ M:Mem,(0:Int)≤(↑k:Int)∧(↑k:Int)<(↑d.7.length:Int))∧(∀ M:Mem,k<List.length d.7)∧bif !decide ([(gK c.7 k).1,(gK c.7 k).2]=[(gK d.7 k).1,(gK d.7 k).2]) then R (.v (.bool false)) [] else K [.rnd [0,0,1,0,1,1,1] M,.blk 2,.at [1,1,1,1]] (St.mk [(6,.v (qA (IntKind.wrap .i64 ((↑k:Int)+(1:Int))))),(2,.p 0 0),(3,.p 1 0)] [.cells [.v (qA c.1),.v (qA c.2),.v (qA c.3),.x 2 [],.x 3 [],.x 4 [],.x 5 []] 27,.cells [.v (qA d.1),.v (qA d.2),.v (qA d.3),.x 6 [],.x 7 [],.x 8 [],.x 9 []] 27,.ext false (.s false 7 c.4.length (cN c.4)),.ext false (.s false 1 c.5.length (cI c.5)),.ext false (.s false 2 c.6.length (cL c.6)),.ext false (.s false 2 c.7.length (cK c.7)),.ext false (.s false 7 d.4.length (cN d.4)),.ext false (.s false 1 d.5.length (cI d.5)),.ext false (.s false 2 d.6.length (cL d.6)),.ext false (.s false 2 d.7.length (cK d.7))]) else R (.v (.bool true)) []):=by kernel_rfl
theorem scS(c d:Cir)(K:List It→St→Prop)(R:SV→List HO→Prop):W (xwp Tryz.prog X K89 [] 60 (qK Tryz.f16 [] [⟨[0,1,0,1,1],[5,2,3],[]⟩,⟨[0,1,0,1,1,1],[6,2,3],[]⟩]) [] [.at []] ⟨qR 0 [.agg [.v (.int .i64 c.fx),.v (.int .i64 c.ad),.v (.int .i64 c.ins),.x 0 [],.x 1 [],.x 2 [],.x 3 []],.agg [.v (.int .i64 d.fx),.v (.int .i64 d.ad),.v (.int .i64 d.ins),.x 4 [],.x 5 [],.x 6 [],.x 7 []]],[.ext false (.s false 7 c.nodes.length (cN c.nodes)),.ext false (.s false 1 c.gates.length (cI c.gates)),.ext false (.s false 2 c.looks.length (cL c.looks)),.ext false (.s false 2 c.eqs.length (cK c.eqs)),.ext false (.s false 7 d.nodes.length (cN d.nodes)),.ext false (.s false 1 d.gates.length (cI d.gates)),.ext false (.s false 2 d.looks.length (cL d.looks)),.ext false (.s false 2 d.eqs.length (cK d.eqs))]⟩ K R)=W (bif !c.1==d.1 then R (.v (.bool false)) [] else bif !c.2==d.2 then R (.v (.bool false)) [] else bif !c.3==d.3 then R (.v (.bool false)) [] else ∃(l:List Nd),List.length c.4=List.length l∧IsC c.4.length 7 (cN c.4) (cN l)∧List.length l≤4398046511104∧∃(l2:List Nd),List.length d.4=List.length l2∧IsC d.4.length 7 (cN d.4) (cN l2)∧(∀(x:Nd),x∈l→x.4<top)∧(∀(x:Nd),x∈l2→x.4<top)∧bif !decide (l=l2) then R (.v (.bool false)) [] else lI2 c.5.length d.5.length (cI c.5) (cI d.5) fun(l l2:List Int)=>bif !decide (l=l2) then R (.v (.bool false)) [] else bif !(↑c.6.length:Int)==(↑d.6.length:Int) then R (.v (.bool false)) [] else bif !(↑c.7.length:Int)==(↑d.7.length:Int) then R (.v (.bool false)) [] else K [.at [0,1,0,1,1],.blk 0,.at [1,1,1]] (St.mk [(5,.v (qA 0)),(2,.p 0 0),(3,.p 1 0)] [.cells [.v (qA c.1),.v (qA c.2),.v (qA c.3),.x 2 [],.x 3 [],.x 4 [],.x 5 []] 27,.cells [.v (qA d.1),.v (qA d.2),.v (qA d.3),.x 6 [],.x 7 [],.x 8 [],.x 9 []] 27,.ext false (.s false 7 c.4.length (cN c.4)),.ext false (.s false 1 c.5.length (cI c.5)),.ext false (.s false 2 c.6.length (cL c.6)),.ext false (.s false 2 c.7.length (cK c.7)),.ext false (.s false 7 d.4.length (cN d.4)),.ext false (.s false 1 d.5.length (cI d.5)),.ext false (.s false 2 d.6.length (cL d.6)),.ext false (.s false 2 d.7.length (cK d.7))])):=by kernel_rfl
theorem zUo(l l2:List (List Nat))(K:List It→St→Prop)(R:SV→List HO→Prop):W (xwp Tryz.prog X K89 [] 60 (qK Tryz.f17 [] [⟨[0,1,0,1,1],[5,0,1],[]⟩]) [] [.at []] ⟨qR 0 [.x 0 [],.x 1 []],[.ext false (.s false 1 l.length (cT l)),.ext false (.s false 1 l2.length (cT l2))]⟩ K R)=W (bif !(↑l.length:Int)==(↑l2.length:Int) then R (.v (.bool false)) [] else K [.at [0,1,0,1,1],.blk 0,.at [1,1,1]] (St.mk [(5,.v (qA 0)),(0,.x 0 []),(1,.x 1 [])] [.ext false (.s false 1 l.length (cT l)),.ext false (.s false 1 l2.length (cT l2))])):=by kernel_rfl
theorem zQs(l l2:List (List Nat))(k M:Nat)(K:List It→St→Prop)(R:SV→List HO→Prop):W (xwp Tryz.prog X K89 [] 60 (qK Tryz.f17 [] [⟨[0,1,0,1,1],[5,0,1],[]⟩]) [] (.at [0,0,1,0,1,1]::.rnd [0,0,1,0,1,1] M::[.blk 0,.at [1,1,1]]) ⟨[(5,.v (.int .i64 (k:Int))),(0,.x 0 []),(1,.x 1 [])],[.ext false (.s false 1 l.length (cT l)),.ext false (.s false 1 l2.length (cT l2))]⟩ K R)=W (bif decide ((↑k:Int)<(↑l.length:Int)) then(∀ M:Mem,(0:Int)≤(↑k:Int)∧(↑k:Int)<(↑l.length:Int))∧(∀ M:Mem,k<List.length l)∧(∀ M:Mem,(0:Int)≤(↑k:Int)∧(↑k:Int)<(↑l2.length:Int))∧(∀ M:Mem,k<List.length l2)∧(∀ M:Mem,k<List.length l)∧(∀ M:Mem,k<List.length l2)∧lE2 (List.length (gT l k)) (List.length (gT l2 k)) (cE (gT l k)) (cE (gT l2 k)) fun(l_1 l2_1:List Nat)=>bif !decide (l_1=l2_1) then R (.v (.bool false)) [] else K [.rnd [0,0,1,0,1,1] M,.blk 0,.at [1,1,1]] (St.mk [(5,.v (qA (IntKind.wrap .i64 ((↑k:Int)+(1:Int))))),(0,.x 0 []),(1,.x 1 [])] [.ext false (.s false 1 l.length (cT l)),.ext false (.s false 1 l2.length (cT l2))]) else R (.v (.bool true)) []):=by kernel_rfl
theorem qTc(c:Cir)(hc:c.ok)(Q:SV→List HO→Prop)(hq:Q (.v (.bool true)) []):∀(d k:Nat),k+d=c.eqs.length →
  FOk Tryz.prog Tryz.f16 Q (.rnd [0,0,1,0,1,1,1] (d+1)::[.blk 2,.at [1,1,1,1]]) ⟨[(6,.v (.int .i64 (k:Int))),(2,.p 0 0),(3,.p 1 0)],[.cells [.v (.int .i64 c.fx),.v (.int .i64 c.ad),.v (.int .i64 c.ins),.x 2 [],.x 3 [],.x 4 [],.x 5 []] 27,.cells [.v (.int .i64 c.fx),.v (.int .i64 c.ad),.v (.int .i64 c.ins),.x 6 [],.x 7 [],.x 8 [],.x 9 []] 27,.ext false (.s false 7 c.nodes.length (cN c.nodes)),.ext false (.s false 1 c.gates.length (cI c.gates)),.ext false (.s false 2 c.looks.length (cL c.looks)),.ext false (.s false 2 c.eqs.length (cK c.eqs)),.ext false (.s false 7 c.nodes.length (cN c.nodes)),.ext false (.s false 1 c.gates.length (cI c.gates)),.ext false (.s false 2 c.looks.length (cL c.looks)),.ext false (.s false 2 c.eqs.length (cK c.eqs))]⟩
 | 0,k,hd=>by
  refine FOk.rnd (qD hm 60 ((sc2 c c k 0 _ _).mpr ⟨?_⟩))
  rw[qF,if_neg (by omega)]
  exact hq
 | d+1,k,hd=>by
  have h1:=hc.e.2
  refine FOk.rnd (qD hm 60 ((sc2 c c k (d+1) _ _).mpr ⟨?_⟩))
  rw[qF,if_pos (by omega),qL _ (by omega),decide_eq_true rfl]
  exact aI (aI (aI (aI (qTc c hc Q hq d (k+1) (by omega)))))
theorem qUb(c:Cir)(hc:c.ok)(Q:SV→List HO→Prop)(hq:Q (.v (.bool true)) []):∀(d k:Nat),k+d=c.looks.length →
  FOk Tryz.prog Tryz.f16 Q (.rnd [0,0,1,0,1,1] (d+1)::[.blk 0,.at [1,1,1]]) ⟨[(5,.v (.int .i64 (k:Int))),(2,.p 0 0),(3,.p 1 0)],[.cells [.v (.int .i64 c.fx),.v (.int .i64 c.ad),.v (.int .i64 c.ins),.x 2 [],.x 3 [],.x 4 [],.x 5 []] 27,.cells [.v (.int .i64 c.fx),.v (.int .i64 c.ad),.v (.int .i64 c.ins),.x 6 [],.x 7 [],.x 8 [],.x 9 []] 27,.ext false (.s false 7 c.nodes.length (cN c.nodes)),.ext false (.s false 1 c.gates.length (cI c.gates)),.ext false (.s false 2 c.looks.length (cL c.looks)),.ext false (.s false 2 c.eqs.length (cK c.eqs)),.ext false (.s false 7 c.nodes.length (cN c.nodes)),.ext false (.s false 1 c.gates.length (cI c.gates)),.ext false (.s false 2 c.looks.length (cL c.looks)),.ext false (.s false 2 c.eqs.length (cK c.eqs))]⟩
 | 0,k,hd=>by
  refine FOk.rnd (qD hm 60 ((sc1 c c k 0 _ _).mpr ⟨?_⟩))
  rw[qF,if_neg (by omega)]
  exact FOk.loop (c.eqs.length+1) (by kernel_rfl) (qTc c hc Q hq c.eqs.length 0 (by omega))
 | d+1,k,hd=>by
  have h1:=hc.l.2
  have hk:k<c.looks.length:=by omega
  obtain⟨⟨_,g1⟩,⟨_,g2⟩⟩:=hc.l.1 _ (wY hk)
  refine FOk.rnd (qD hm 60 ((sc1 c c k (d+1) _ _).mpr ⟨?_⟩))
  rw[qF,if_pos (by omega),qL _ (by omega)]
  refine aI (aI (aI (aI (aI (aI (aI (aI (⟨⟨_,_,rfl,IsC.refl _ _ _,rfl,IsC.refl _ _ _,by omega,?_⟩⟩))))))))
  rw[decide_eq_true rfl]
  refine aI (aI (aI (aI (aI (aI (aI (aI (⟨⟨_,_,rfl,IsC.refl _ _ _,rfl,IsC.refl _ _ _,by omega,?_⟩⟩))))))))
  rw[decide_eq_true rfl]
  exact qUb c hc Q hq d (k+1) (by omega)
theorem bSc:Tryz.f16.body.isSome=true:=by kernel_rfl
theorem nSc(c:Cir):Nat.ble [(.agg [.v (.int .i64 c.fx),.v (.int .i64 c.ad),.v (.int .i64 c.ins),.x 0 [],.x 1 [],.x 2 [],.x 3 []]:SV),.agg [.v (.int .i64 c.fx),.v (.int .i64 c.ad),.v (.int .i64 c.ins),.x 4 [],.x 5 [],.x 6 [],.x 7 []]].length Tryz.f16.ntmps=true:=by kernel_rfl
theorem zPq(c:Cir)(hc:c.ok)(Q:SV→List HO→Prop)(hq:Q (.v (.bool true)) []):qI Tryz.prog 16 [.agg [.v (.int .i64 c.fx),.v (.int .i64 c.ad),.v (.int .i64 c.ins),.x 0 [],.x 1 [],.x 2 [],.x 3 []],.agg [.v (.int .i64 c.fx),.v (.int .i64 c.ad),.v (.int .i64 c.ins),.x 4 [],.x 5 [],.x 6 [],.x 7 []]] [.ext false (.s false 7 c.nodes.length (cN c.nodes)),.ext false (.s false 1 c.gates.length (cI c.gates)),.ext false (.s false 2 c.looks.length (cL c.looks)),.ext false (.s false 2 c.eqs.length (cK c.eqs)),.ext false (.s false 7 c.nodes.length (cN c.nodes)),.ext false (.s false 1 c.gates.length (cI c.gates)),.ext false (.s false 2 c.looks.length (cL c.looks)),.ext false (.s false 2 c.eqs.length (cK c.eqs))] Q:=by
 refine qJ Tryz.func16 bSc ?_ ?_
 ·exact nSc c
 have h1:=hc.n.2
 have h2:=hc.g.2
 refine qD hm 60 ((scS c c _ _).mpr ⟨?_⟩)
 simp only[beq_self_eq_true,Bool.not_true,cond_false]
 refine⟨c.nodes,rfl,IsC.refl _ _ _,by omega,c.nodes,rfl,IsC.refl _ _ _,fun x hx=>(hc.n.1 x hx).1,fun x hx=>(hc.n.1 x hx).1,?_⟩
 rw[decide_eq_true rfl]
 refine⟨⟨c.gates,c.gates,rfl,IsC.refl _ _ _,rfl,IsC.refl _ _ _,by omega,?_⟩⟩
 rw[decide_eq_true rfl]
 exact FOk.loop (c.looks.length+1) (by kernel_rfl) (qUb c hc Q hq c.looks.length 0 (by omega))
noncomputable def zPn:List SV→List HO→Option ((SV→List HO→Prop)→Prop)
 | [.agg [.v (.int .i64 fx),.v (.int .i64 ad),.v (.int .i64 ins),.x 0 [],.x 1 [],.x 2 [],.x 3 []],.agg [.v (.int .i64 gx),.v (.int .i64 bd),.v (.int .i64 jns),.x 4 [],.x 5 [],.x 6 [],.x 7 []]],[.ext false (.s false 7 n0 c0),.ext false (.s false 1 n1 c1),.ext false (.s false 2 n2 c2),.ext false (.s false 2 n3 c3),.ext false (.s false 7 m0 d0),.ext false (.s false 1 m1 d1),.ext false (.s false 2 m2 d2),.ext false (.s false 2 m3 d3)] =>
  some fun Q=>lC fx ad ins n0 n1 n2 n3 c0 c1 c2 c3 fun c=>lC gx bd jns m0 m1 m2 m3 d0 d1 d2 d3 fun d=>d=c∧Q (.v (.bool true)) []
 | _,_=>none
theorem zGz(args:List SV)(h:List HO)(tr:(SV→List HO→Prop)→Prop)(Q:SV→List HO→Prop)(hc:zPn args h=some tr)(ht:tr Q):qI Tryz.prog 16 args h Q:=by
 unfold zPn at hc
 split at hc
 ·simp only[sI] at hc
  subst hc
  obtain⟨c,rfl,rfl,rfl,⟨rfl,e0⟩,⟨rfl,e1⟩,⟨rfl,e2⟩,⟨rfl,e3⟩,hk,ht2⟩:=ht.h
  obtain⟨d,rfl,rfl,rfl,⟨rfl,e4⟩,⟨rfl,e5⟩,⟨rfl,e6⟩,⟨rfl,e7⟩,hk2,rfl,hq⟩:=ht2.h
  exact qI.ac (zPq _ hk Q hq) ⟨⟨rfl,rfl,rfl,rfl,e0⟩,⟨rfl,rfl,rfl,rfl,e1⟩,⟨rfl,rfl,rfl,rfl,e2⟩,⟨rfl,rfl,rfl,rfl,e3⟩,⟨rfl,rfl,rfl,rfl,e4⟩,⟨rfl,rfl,rfl,rfl,e5⟩,⟨rfl,rfl,rfl,rfl,e6⟩,⟨rfl,rfl,rfl,rfl,e7⟩,trivial⟩
 ·cases hc
theorem qUp(l:List (List Nat))(hl:okT l)(Q:SV→List HO→Prop)(hq:Q (.v (.bool true)) []):∀(d k:Nat),k+d=l.length →
  FOk Tryz.prog Tryz.f17 Q (.rnd [0,0,1,0,1,1] (d+1)::[.blk 0,.at [1,1,1]]) ⟨[(5,.v (.int .i64 (k:Int))),(0,.x 0 []),(1,.x 1 [])],[.ext false (.s false 1 l.length (cT l)),.ext false (.s false 1 l.length (cT l))]⟩
 | 0,k,hd=>by
  refine FOk.rnd (qD hm 60 ((zQs l l k 0 _ _).mpr ⟨?_⟩))
  rw[qF,if_neg (by omega)]
  exact hq
 | d+1,k,hd=>by
  have hk:k<l.length:=by omega
  have h1:=hl.2
  obtain⟨g0,g1⟩:=hl.1 _ (qBd hk)
  refine FOk.rnd (qD hm 60 ((zQs l l k (d+1) _ _).mpr ⟨?_⟩))
  rw[qF,if_pos (by omega),qL _ (by omega)]
  repeat' (refine And.intro (fun _=>by omega) ?_)
  refine⟨⟨_,_,rfl,IsC.refl _ _ _,rfl,IsC.refl _ _ _,by omega,g0,g0,?_⟩⟩
  rw[decide_eq_true rfl]
  exact qUp l hl Q hq d (k+1) (by omega)
theorem zYb:Tryz.f17.body.isSome=true:=by kernel_rfl
theorem zWv:Nat.ble [SV.x 0 [],.x 1 []].length Tryz.f17.ntmps=true:=by kernel_rfl
theorem zJx(l:List (List Nat))(hl:okT l)(Q:SV→List HO→Prop)(hq:Q (.v (.bool true)) []):qI Tryz.prog 17 [.x 0 [],.x 1 []] [.ext false (.s false 1 l.length (cT l)),.ext false (.s false 1 l.length (cT l))] Q:=by
 refine qJ Tryz.func17 zYb ?_ ?_
 ·exact zWv
 refine qD hm 60 ((zUo l l _ _).mpr ⟨?_⟩)
 simp only[beq_self_eq_true,Bool.not_true,cond_false]
 exact FOk.loop (l.length+1) (by kernel_rfl) (qUp l hl Q hq l.length 0 (by omega))
noncomputable def zNw:List SV→List HO→Option ((SV→List HO→Prop)→Prop)
 | [.x 0 [],.x 1 []],[.ext false (.s false 1 n c),.ext false (.s false 1 m d)]=>some fun Q=>lT n c fun l=>lT m d fun l2=>l2=l∧Q (.v (.bool true)) []
 | _,_=>none
theorem zHt(args:List SV)(h:List HO)(tr:(SV→List HO→Prop)→Prop)(Q:SV→List HO→Prop)(hc:zNw args h=some tr)(ht:tr Q):qI Tryz.prog 17 args h Q:=by
 unfold zNw at hc
 split at hc
 ·simp only[sI] at hc
  subst hc
  obtain⟨l,rfl,e0,hl,ht2⟩:=ht.h
  obtain⟨l2,rfl,e1,hl2,rfl,hq⟩:=ht2.h
  exact qI.ac (zJx _ hl Q hq) ⟨⟨rfl,rfl,rfl,rfl,e0⟩,⟨rfl,rfl,rfl,rfl,e1⟩,trivial⟩
 ·cases hc
noncomputable def K87:Con Tryz.prog:=(K89.add 16 zPn zGz).add 17 zNw zHt
end Go.Proofs.YtlmjdcbhpffanaaGreat
/- Sheets of the same contents. -/
namespace Go.Proofs.YtlmjdcbhpffanaaGreat
open Go.Sx Go.Pl
set_option linter.unusedVariables false
set_option maxRecDepth 100000
theorem zYm(s t:Sht)(K:List It→St→Prop)(R:SV→List HO→Prop):W (xwp Tryz.prog X K87 [] 60 (qK Tryz.f15 [] [⟨[0,1,0,1,1],[5,2,3],[]⟩]) [] [.at []] ⟨qR 0 [.agg [.x 0 [],.x 1 [],.x 2 [],.x 3 []],.agg [.x 4 [],.x 5 [],.x 6 [],.x 7 []]],[.ext false (.s false 1 s.fx.length (cT s.fx)),.ext false (.s false 1 s.ad.length (cT s.ad)),.ext false (.s false 1 s.is.length (cT s.is)),.ext false (.s false 4 s.cp.length (cP s.cp)),.ext false (.s false 1 t.fx.length (cT t.fx)),.ext false (.s false 1 t.ad.length (cT t.ad)),.ext false (.s false 1 t.is.length (cT t.is)),.ext false (.s false 4 t.cp.length (cP t.cp))]⟩ K R)=W (lT s.1.length (cT s.1) fun(l:List (List Nat))=>lT t.1.length (cT t.1) fun(l2:List (List Nat))=>l2=l∧lT s.2.length (cT s.2) fun(l:List (List Nat))=>lT t.2.length (cT t.2) fun(l2:List (List Nat))=>l2=l∧lT s.3.length (cT s.3) fun(l:List (List Nat))=>lT t.3.length (cT t.3) fun(l2:List (List Nat))=>l2=l∧bif !(↑s.4.length:Int)==(↑t.4.length:Int) then R (.v (.bool false)) [] else K [.at [0,1,0,1,1],.blk 0,.at [1,1,1]] (St.mk [(5,.v (qA 0)),(2,.p 0 0),(3,.p 1 0)] [.cells [.x 2 [],.x 3 [],.x 4 [],.x 5 []] 42,.cells [.x 6 [],.x 7 [],.x 8 [],.x 9 []] 42,.ext false (.s false 1 s.1.length (cT s.1)),.ext false (.s false 1 s.2.length (cT s.2)),.ext false (.s false 1 s.3.length (cT s.3)),.ext false (.s false 4 s.4.length (cP s.4)),.ext false (.s false 1 t.1.length (cT t.1)),.ext false (.s false 1 t.2.length (cT t.2)),.ext false (.s false 1 t.3.length (cT t.3)),.ext false (.s false 4 t.4.length (cP t.4))])):=by kernel_rfl
theorem zSw(s t:Sht)(k M:Nat)(K:List It→St→Prop)(R:SV→List HO→Prop):W (xwp Tryz.prog X K87 [] 60 (qK Tryz.f15 [] [⟨[0,1,0,1,1],[5,2,3],[]⟩]) [] (.at [0,0,1,0,1,1]::.rnd [0,0,1,0,1,1] M::[.blk 0,.at [1,1,1]]) ⟨[(5,.v (.int .i64 (k:Int))),(2,.p 0 0),(3,.p 1 0)],[.cells [.x 2 [],.x 3 [],.x 4 [],.x 5 []] 42,.cells [.x 6 [],.x 7 [],.x 8 [],.x 9 []] 42,.ext false (.s false 1 s.fx.length (cT s.fx)),.ext false (.s false 1 s.ad.length (cT s.ad)),.ext false (.s false 1 s.is.length (cT s.is)),.ext false (.s false 4 s.cp.length (cP s.cp)),.ext false (.s false 1 t.fx.length (cT t.fx)),.ext false (.s false 1 t.ad.length (cT t.ad)),.ext false (.s false 1 t.is.length (cT t.is)),.ext false (.s false 4 t.cp.length (cP t.cp))]⟩ K R)=W (bif decide ((↑k:Int)<(↑s.4.length:Int)) then(∀ M:Mem,(0:Int)≤(↑k:Int)∧(↑k:Int)<(↑s.4.length:Int))∧(∀ M:Mem,k<List.length s.4)∧(∀ M:Mem,(0:Int)≤(↑k:Int)∧(↑k:Int)<(↑t.4.length:Int))∧(∀ M:Mem,k<List.length t.4)∧bif !decide ([(gP s.4 k).1,(gP s.4 k).2.1,(gP s.4 k).2.2.1,(gP s.4 k).2.2.2]=[(gP t.4 k).1,(gP t.4 k).2.1,(gP t.4 k).2.2.1,(gP t.4 k).2.2.2]) then R (.v (.bool false)) [] else K [.rnd [0,0,1,0,1,1] M,.blk 0,.at [1,1,1]] (St.mk [(5,.v (qA (IntKind.wrap .i64 ((↑k:Int)+(1:Int))))),(2,.p 0 0),(3,.p 1 0)] [.cells [.x 2 [],.x 3 [],.x 4 [],.x 5 []] 42,.cells [.x 6 [],.x 7 [],.x 8 [],.x 9 []] 42,.ext false (.s false 1 s.1.length (cT s.1)),.ext false (.s false 1 s.2.length (cT s.2)),.ext false (.s false 1 s.3.length (cT s.3)),.ext false (.s false 4 s.4.length (cP s.4)),.ext false (.s false 1 t.1.length (cT t.1)),.ext false (.s false 1 t.2.length (cT t.2)),.ext false (.s false 1 t.3.length (cT t.3)),.ext false (.s false 4 t.4.length (cP t.4))]) else R (.v (.bool true)) []):=by kernel_rfl
theorem qSe(s:Sht)(hs:s.ok)(Q:SV→List HO→Prop)(hq:Q (.v (.bool true)) []):∀(d k:Nat),k+d=s.cp.length →
  FOk Tryz.prog Tryz.f15 Q (.rnd [0,0,1,0,1,1] (d+1)::[.blk 0,.at [1,1,1]]) ⟨[(5,.v (.int .i64 (k:Int))),(2,.p 0 0),(3,.p 1 0)],[.cells [.x 2 [],.x 3 [],.x 4 [],.x 5 []] 42,.cells [.x 6 [],.x 7 [],.x 8 [],.x 9 []] 42,.ext false (.s false 1 s.fx.length (cT s.fx)),.ext false (.s false 1 s.ad.length (cT s.ad)),.ext false (.s false 1 s.is.length (cT s.is)),.ext false (.s false 4 s.cp.length (cP s.cp)),.ext false (.s false 1 s.fx.length (cT s.fx)),.ext false (.s false 1 s.ad.length (cT s.ad)),.ext false (.s false 1 s.is.length (cT s.is)),.ext false (.s false 4 s.cp.length (cP s.cp))]⟩
 | 0,k,hd=>by
  refine FOk.rnd (qD hm 60 ((zSw s s k 0 _ _).mpr ⟨?_⟩))
  rw[qF,if_neg (by omega)]
  exact hq
 | d+1,k,hd=>by
  have h1:=hs.c.2
  refine FOk.rnd (qD hm 60 ((zSw s s k (d+1) _ _).mpr ⟨?_⟩))
  rw[qF,if_pos (by omega),qL _ (by omega),decide_eq_true rfl]
  exact aI (aI (aI (aI (qSe s hs Q hq d (k+1) (by omega)))))
theorem zYl:Tryz.f15.body.isSome=true:=by kernel_rfl
theorem zWa:Nat.ble [(.agg [.x 0 [],.x 1 [],.x 2 [],.x 3 []]:SV),.agg [.x 4 [],.x 5 [],.x 6 [],.x 7 []]].length Tryz.f15.ntmps=true:=by kernel_rfl
theorem zNe(s:Sht)(hs:s.ok)(Q:SV→List HO→Prop)(hq:Q (.v (.bool true)) []):qI Tryz.prog 15 [.agg [.x 0 [],.x 1 [],.x 2 [],.x 3 []],.agg [.x 4 [],.x 5 [],.x 6 [],.x 7 []]] [.ext false (.s false 1 s.fx.length (cT s.fx)),.ext false (.s false 1 s.ad.length (cT s.ad)),.ext false (.s false 1 s.is.length (cT s.is)),.ext false (.s false 4 s.cp.length (cP s.cp)),.ext false (.s false 1 s.fx.length (cT s.fx)),.ext false (.s false 1 s.ad.length (cT s.ad)),.ext false (.s false 1 s.is.length (cT s.is)),.ext false (.s false 4 s.cp.length (cP s.cp))] Q:=by
 refine qJ Tryz.func15 zYl ?_ ?_
 ·exact zWa
 refine qD hm 60 ((zYm s s _ _).mpr ⟨?_⟩)
 refine qCp hs.f (qCp hs.f ⟨rfl,qCp hs.a (qCp hs.a ⟨rfl,qCp hs.i (qCp hs.i ⟨rfl,?_⟩)⟩)⟩)
 simp only[beq_self_eq_true,Bool.not_true,cond_false]
 exact FOk.loop (s.cp.length+1) (by kernel_rfl) (qSe s hs Q hq s.cp.length 0 (by omega))
noncomputable def zPv:List SV→List HO→Option ((SV→List HO→Prop)→Prop)
 | [.agg [.x 0 [],.x 1 [],.x 2 [],.x 3 []],.agg [.x 4 [],.x 5 [],.x 6 [],.x 7 []]],[.ext false (.s false 1 n0 c0),.ext false (.s false 1 n1 c1),.ext false (.s false 1 n2 c2),.ext false (.s false 4 n3 c3),.ext false (.s false 1 m0 d0),.ext false (.s false 1 m1 d1),.ext false (.s false 1 m2 d2),.ext false (.s false 4 m3 d3)] =>
  some fun Q=>lS n0 n1 n2 n3 c0 c1 c2 c3 fun s=>lS m0 m1 m2 m3 d0 d1 d2 d3 fun t=>t=s∧Q (.v (.bool true)) []
 | _,_=>none
theorem zHd(args:List SV)(h:List HO)(tr:(SV→List HO→Prop)→Prop)(Q:SV→List HO→Prop)(hc:zPv args h=some tr)(ht:tr Q):qI Tryz.prog 15 args h Q:=by
 unfold zPv at hc
 split at hc
 ·simp only[sI] at hc
  subst hc
  obtain⟨s,⟨rfl,e0⟩,⟨rfl,e1⟩,⟨rfl,e2⟩,⟨rfl,e3⟩,hs,ht2⟩:=ht.h
  obtain⟨t,⟨rfl,e4⟩,⟨rfl,e5⟩,⟨rfl,e6⟩,⟨rfl,e7⟩,ht3,rfl,hq⟩:=ht2.h
  exact qI.ac (zNe _ hs Q hq) ⟨⟨rfl,rfl,rfl,rfl,e0⟩,⟨rfl,rfl,rfl,rfl,e1⟩,⟨rfl,rfl,rfl,rfl,e2⟩,⟨rfl,rfl,rfl,rfl,e3⟩,⟨rfl,rfl,rfl,rfl,e4⟩,⟨rfl,rfl,rfl,rfl,e5⟩,⟨rfl,rfl,rfl,rfl,e6⟩,⟨rfl,rfl,rfl,rfl,e7⟩,trivial⟩
 ·cases hc
noncomputable def K90:Con Tryz.prog:=K87.add 15 zPv zHd
end Go.Proofs.YtlmjdcbhpffanaaGreat
/- The document's comparison, difference and sum of words. -/
namespace Go.Pl
open Go.Sx
theorem mst(a b c:Nat)(ha:a<18446744073709551616)(hb:b<18446744073709551616)(hc:c≤1):∃ o:Nat,o<18446744073709551616∧IntKind.wrap IntKind.u64 (IntKind.wrap IntKind.u64 ((↑a:Int)-(↑b:Int))-(↑c:Int))=(o:Int) ∧
  ((a:Int)<(b:Int)→a+18446744073709551616*1=o+b+c)∧(¬ (a:Int)<(b:Int)→IntKind.wrap IntKind.u64 ((↑a:Int)-(↑b:Int))<(c:Int)→a+18446744073709551616*1=o+b+c)∧(¬ (a:Int)<(b:Int)→¬ IntKind.wrap IntKind.u64 ((↑a:Int)-(↑b:Int))<(c:Int)→a+18446744073709551616*0=o+b+c):=by
 refine⟨((a:Int)+2*18446744073709551616-b-c).toNat%18446744073709551616,Nat.mod_lt _ (by omega),?_,?_,?_,?_⟩
 ·rw[qY,qY]; omega
 ·intro h; omega
 ·intro h h2; rw[qY] at h2; omega
 ·intro h h2; rw[qY] at h2; omega
theorem pst(a b c:Nat)(ha:a<18446744073709551616)(hb:b<18446744073709551616)(hc:c≤1):∃ o:Nat,o<18446744073709551616∧IntKind.wrap IntKind.u64 (IntKind.wrap IntKind.u64 ((↑a:Int)+(↑b:Int))+(↑c:Int))=(o:Int) ∧
  (IntKind.wrap IntKind.u64 ((↑a:Int)+(↑b:Int))<(a:Int)→a+b+c=o+18446744073709551616*1)∧(¬ IntKind.wrap IntKind.u64 ((↑a:Int)+(↑b:Int))<(a:Int)→(o:Int)<IntKind.wrap IntKind.u64 ((↑a:Int)+(↑b:Int))→a+b+c=o+18446744073709551616*1)∧(¬ IntKind.wrap IntKind.u64 ((↑a:Int)+(↑b:Int))<(a:Int)→¬ (o:Int)<IntKind.wrap IntKind.u64 ((↑a:Int)+(↑b:Int))→a+b+c=o+18446744073709551616*0):=by
 refine⟨(a+b+c)%18446744073709551616,Nat.mod_lt _ (by omega),?_,?_,?_,?_⟩
 ·rw[qY,qY]; omega
 ·intro h; rw[qY] at h; omega
 ·intro h h2; rw[qY] at h h2; omega
 ·intro h h2; rw[qY] at h h2; omega
end Go.Pl
namespace Go.Proofs.YtlmjdcbhpffanaaGreat
open Go.Sx Go.Pl
set_option linter.unusedVariables false
set_option maxRecDepth 100000
theorem rbS(a b:Nat)(K:List It→St→Prop)(R:SV→List HO→Prop):W (xwp Tryz.prog X K31 [] 60 (qK Tryz.f96 [([0,1,0,1],5)] []) [] [.at []] ⟨qR 0 [eS a,eS b],[]⟩ K R)=W ((∀ M:Mem,(0:Int)≤(3:Int)∧(3:Int)<(4:Int))∧(∀ M:Mem,(0:Int)≤(3:Int)∧(3:Int)<(4:Int))∧bif !(↑(qB a 3):Int)==(↑(qB b 3):Int) then(∀ M:Mem,(0:Int)≤(3:Int)∧(3:Int)<(4:Int))∧(∀ M:Mem,(0:Int)≤(3:Int)∧(3:Int)<(4:Int))∧R (.v (.bool (decide ((↑(qB a 3):Int)<(↑(qB b 3):Int))))) [] else(∀ M:Mem,(0:Int)≤(2:Int)∧(2:Int)<(4:Int))∧(∀ M:Mem,(0:Int)≤(2:Int)∧(2:Int)<(4:Int))∧bif !(↑(qB a 2):Int)==(↑(qB b 2):Int) then(∀ M:Mem,(0:Int)≤(2:Int)∧(2:Int)<(4:Int))∧(∀ M:Mem,(0:Int)≤(2:Int)∧(2:Int)<(4:Int))∧R (.v (.bool (decide ((↑(qB a 2):Int)<(↑(qB b 2):Int))))) [] else(∀ M:Mem,(0:Int)≤(1:Int)∧(1:Int)<(4:Int))∧(∀ M:Mem,(0:Int)≤(1:Int)∧(1:Int)<(4:Int))∧bif !(↑(qB a 1):Int)==(↑(qB b 1):Int) then(∀ M:Mem,(0:Int)≤(1:Int)∧(1:Int)<(4:Int))∧(∀ M:Mem,(0:Int)≤(1:Int)∧(1:Int)<(4:Int))∧R (.v (.bool (decide ((↑(qB a 1):Int)<(↑(qB b 1):Int))))) [] else(∀ M:Mem,(0:Int)≤(0:Int)∧(0:Int)<(4:Int))∧(∀ M:Mem,(0:Int)≤(0:Int)∧(0:Int)<(4:Int))∧bif !(↑(qB a 0):Int)==(↑(qB b 0):Int) then(∀ M:Mem,(0:Int)≤(0:Int)∧(0:Int)<(4:Int))∧(∀ M:Mem,(0:Int)≤(0:Int)∧(0:Int)<(4:Int))∧R (.v (.bool (decide ((↑(qB a 0):Int)<(↑(qB b 0):Int))))) [] else R (.v (.bool false)) []):=by kernel_rfl
theorem rmS(a b:Nat)(K:List It→St→Prop)(R:SV→List HO→Prop):W (xwp Tryz.prog X K31 [] 60 (qK Tryz.f97 [] [⟨[0,1,0,1,1,1],[2,3,4,5,6,7],[]⟩]) [] [.at []] ⟨qR 0 [eS a,eS b],[]⟩ K R)=W ((∀ M:Mem,4≤4)∧K [.at [0,1,0,1,1,1],.blk 0,.at [1,1,1,1]] (St.mk [(2,.p 0 0),(3,.p 1 0),(4,.p 2 0),(5,.p 3 0),(6,.v (qC 0)),(7,.v (qA 0))] [.cells [.v (qC (↑(qB a 0):Int)),.v (qC (↑(qB a 1):Int)),.v (qC (↑(qB a 2):Int)),.v (qC (↑(qB a 3):Int))] 53,.cells [.v (qC (↑(qB b 0):Int)),.v (qC (↑(qB b 1):Int)),.v (qC (↑(qB b 2):Int)),.v (qC (↑(qB b 3):Int))] 53,.cells [.v (qC 0),.v (qC 0),.v (qC 0),.v (qC 0)] 53,.cells [.v (qC 0),.v (qC 0),.v (qC 0),.v (qC 0)] 53])):=by kernel_rfl
theorem rm0(c0 a b M:Nat)(K:List It→St→Prop)(R:SV→List HO→Prop):W (xwp Tryz.prog X K31 [] 60 (qK Tryz.f97 [] [⟨[0,1,0,1,1,1],[2,3,4,5,6,7],[]⟩]) [] (.at [0,0,1,0,1,1,1]::.rnd [0,0,1,0,1,1,1] M::[.blk 0,.at [1,1,1,1]]) ⟨[(2,.p 0 0),(3,.p 1 0),(4,.p 2 0),(5,.p 3 0),(6,.v (.int .u64 (c0:Nat))),(7,.v (.int .i64 0))],[.cells [.v (.int .u64 (qB a 0:Nat)),.v (.int .u64 (qB a 1:Nat)),.v (.int .u64 (qB a 2:Nat)),.v (.int .u64 (qB a 3:Nat))] 53,.cells [.v (.int .u64 (qB b 0:Nat)),.v (.int .u64 (qB b 1:Nat)),.v (.int .u64 (qB b 2:Nat)),.v (.int .u64 (qB b 3:Nat))] 53,.cells [.v (.int .u64 0),.v (.int .u64 0),.v (.int .u64 0),.v (.int .u64 0)] 53,.cells [.v (.int .u64 0),.v (.int .u64 0),.v (.int .u64 0),.v (.int .u64 0)] 53]⟩ K R)=W ((∀ M:Mem,(0:Int)≤(0:Int)∧(0:Int)<(4:Int))∧(∀ M:Mem,(0:Int)≤(0:Int)∧(0:Int)<(4:Int))∧(∀ M:Mem,(0:Int)≤(0:Int)∧(0:Int)<(4:Int))∧(∀ M:Mem,0+1≤4)∧(∀ M:Mem,(0:Int)≤(0:Int)∧(0:Int)<(4:Int))∧(∀ M:Mem,(0:Int)≤(0:Int)∧(0:Int)<(4:Int))∧bif decide ((↑(qB a 0):Int)<(↑(qB b 0):Int)) then K [.rnd [0,0,1,0,1,1,1] M,.blk 0,.at [1,1,1,1]] (St.mk [(2,.p 0 0),(3,.p 1 0),(4,.p 2 0),(5,.p 3 0),(6,.v (qC 1)),(7,.v (qA 1))] [.cells [.v (qC (↑(qB a 0):Int)),.v (qC (↑(qB a 1):Int)),.v (qC (↑(qB a 2):Int)),.v (qC (↑(qB a 3):Int))] 53,.cells [.v (qC (↑(qB b 0):Int)),.v (qC (↑(qB b 1):Int)),.v (qC (↑(qB b 2):Int)),.v (qC (↑(qB b 3):Int))] 53,.cells [.v (qC 0),.v (qC 0),.v (qC 0),.v (qC 0)] 53,.cells [.v (qC (IntKind.wrap IntKind.u64 (IntKind.wrap IntKind.u64 ((↑(qB a 0):Int)-(↑(qB b 0):Int))-(↑c0:Int)))),.v (qC 0),.v (qC 0),.v (qC 0)] 53]) else bif decide (IntKind.wrap IntKind.u64 ((↑(qB a 0):Int)-(↑(qB b 0):Int))<(↑c0:Int)) then K [.rnd [0,0,1,0,1,1,1] M,.blk 0,.at [1,1,1,1]] (St.mk [(2,.p 0 0),(3,.p 1 0),(4,.p 2 0),(5,.p 3 0),(6,.v (qC 1)),(7,.v (qA 1))] [.cells [.v (qC (↑(qB a 0):Int)),.v (qC (↑(qB a 1):Int)),.v (qC (↑(qB a 2):Int)),.v (qC (↑(qB a 3):Int))] 53,.cells [.v (qC (↑(qB b 0):Int)),.v (qC (↑(qB b 1):Int)),.v (qC (↑(qB b 2):Int)),.v (qC (↑(qB b 3):Int))] 53,.cells [.v (qC 0),.v (qC 0),.v (qC 0),.v (qC 0)] 53,.cells [.v (qC (IntKind.wrap IntKind.u64 (IntKind.wrap IntKind.u64 ((↑(qB a 0):Int)-(↑(qB b 0):Int))-(↑c0:Int)))),.v (qC 0),.v (qC 0),.v (qC 0)] 53]) else K [.rnd [0,0,1,0,1,1,1] M,.blk 0,.at [1,1,1,1]] (St.mk [(2,.p 0 0),(3,.p 1 0),(4,.p 2 0),(5,.p 3 0),(6,.v (qC 0)),(7,.v (qA 1))] [.cells [.v (qC (↑(qB a 0):Int)),.v (qC (↑(qB a 1):Int)),.v (qC (↑(qB a 2):Int)),.v (qC (↑(qB a 3):Int))] 53,.cells [.v (qC (↑(qB b 0):Int)),.v (qC (↑(qB b 1):Int)),.v (qC (↑(qB b 2):Int)),.v (qC (↑(qB b 3):Int))] 53,.cells [.v (qC 0),.v (qC 0),.v (qC 0),.v (qC 0)] 53,.cells [.v (qC (IntKind.wrap IntKind.u64 (IntKind.wrap IntKind.u64 ((↑(qB a 0):Int)-(↑(qB b 0):Int))-(↑c0:Int)))),.v (qC 0),.v (qC 0),.v (qC 0)] 53])):=by kernel_rfl
theorem rm1(o0 c1 a b M:Nat)(K:List It→St→Prop)(R:SV→List HO→Prop):W (xwp Tryz.prog X K31 [] 60 (qK Tryz.f97 [] [⟨[0,1,0,1,1,1],[2,3,4,5,6,7],[]⟩]) [] (.at [0,0,1,0,1,1,1]::.rnd [0,0,1,0,1,1,1] M::[.blk 0,.at [1,1,1,1]]) ⟨[(2,.p 0 0),(3,.p 1 0),(4,.p 2 0),(5,.p 3 0),(6,.v (.int .u64 (c1:Nat))),(7,.v (.int .i64 1))],[.cells [.v (.int .u64 (qB a 0:Nat)),.v (.int .u64 (qB a 1:Nat)),.v (.int .u64 (qB a 2:Nat)),.v (.int .u64 (qB a 3:Nat))] 53,.cells [.v (.int .u64 (qB b 0:Nat)),.v (.int .u64 (qB b 1:Nat)),.v (.int .u64 (qB b 2:Nat)),.v (.int .u64 (qB b 3:Nat))] 53,.cells [.v (.int .u64 0),.v (.int .u64 0),.v (.int .u64 0),.v (.int .u64 0)] 53,.cells [.v (.int .u64 (o0:Nat)),.v (.int .u64 0),.v (.int .u64 0),.v (.int .u64 0)] 53]⟩ K R)=W ((∀ M:Mem,(0:Int)≤(1:Int)∧(1:Int)<(4:Int))∧(∀ M:Mem,(0:Int)≤(1:Int)∧(1:Int)<(4:Int))∧(∀ M:Mem,(0:Int)≤(1:Int)∧(1:Int)<(4:Int))∧(∀ M:Mem,1+1≤4)∧(∀ M:Mem,(0:Int)≤(1:Int)∧(1:Int)<(4:Int))∧(∀ M:Mem,(0:Int)≤(1:Int)∧(1:Int)<(4:Int))∧bif decide ((↑(qB a 1):Int)<(↑(qB b 1):Int)) then K [.rnd [0,0,1,0,1,1,1] M,.blk 0,.at [1,1,1,1]] (St.mk [(2,.p 0 0),(3,.p 1 0),(4,.p 2 0),(5,.p 3 0),(6,.v (qC 1)),(7,.v (qA 2))] [.cells [.v (qC (↑(qB a 0):Int)),.v (qC (↑(qB a 1):Int)),.v (qC (↑(qB a 2):Int)),.v (qC (↑(qB a 3):Int))] 53,.cells [.v (qC (↑(qB b 0):Int)),.v (qC (↑(qB b 1):Int)),.v (qC (↑(qB b 2):Int)),.v (qC (↑(qB b 3):Int))] 53,.cells [.v (qC 0),.v (qC 0),.v (qC 0),.v (qC 0)] 53,.cells [.v (qC (↑o0:Int)),.v (qC (IntKind.wrap IntKind.u64 (IntKind.wrap IntKind.u64 ((↑(qB a 1):Int)-(↑(qB b 1):Int))-(↑c1:Int)))),.v (qC 0),.v (qC 0)] 53]) else bif decide (IntKind.wrap IntKind.u64 ((↑(qB a 1):Int)-(↑(qB b 1):Int))<(↑c1:Int)) then K [.rnd [0,0,1,0,1,1,1] M,.blk 0,.at [1,1,1,1]] (St.mk [(2,.p 0 0),(3,.p 1 0),(4,.p 2 0),(5,.p 3 0),(6,.v (qC 1)),(7,.v (qA 2))] [.cells [.v (qC (↑(qB a 0):Int)),.v (qC (↑(qB a 1):Int)),.v (qC (↑(qB a 2):Int)),.v (qC (↑(qB a 3):Int))] 53,.cells [.v (qC (↑(qB b 0):Int)),.v (qC (↑(qB b 1):Int)),.v (qC (↑(qB b 2):Int)),.v (qC (↑(qB b 3):Int))] 53,.cells [.v (qC 0),.v (qC 0),.v (qC 0),.v (qC 0)] 53,.cells [.v (qC (↑o0:Int)),.v (qC (IntKind.wrap IntKind.u64 (IntKind.wrap IntKind.u64 ((↑(qB a 1):Int)-(↑(qB b 1):Int))-(↑c1:Int)))),.v (qC 0),.v (qC 0)] 53]) else K [.rnd [0,0,1,0,1,1,1] M,.blk 0,.at [1,1,1,1]] (St.mk [(2,.p 0 0),(3,.p 1 0),(4,.p 2 0),(5,.p 3 0),(6,.v (qC 0)),(7,.v (qA 2))] [.cells [.v (qC (↑(qB a 0):Int)),.v (qC (↑(qB a 1):Int)),.v (qC (↑(qB a 2):Int)),.v (qC (↑(qB a 3):Int))] 53,.cells [.v (qC (↑(qB b 0):Int)),.v (qC (↑(qB b 1):Int)),.v (qC (↑(qB b 2):Int)),.v (qC (↑(qB b 3):Int))] 53,.cells [.v (qC 0),.v (qC 0),.v (qC 0),.v (qC 0)] 53,.cells [.v (qC (↑o0:Int)),.v (qC (IntKind.wrap IntKind.u64 (IntKind.wrap IntKind.u64 ((↑(qB a 1):Int)-(↑(qB b 1):Int))-(↑c1:Int)))),.v (qC 0),.v (qC 0)] 53])):=by kernel_rfl
theorem rm2(o0 o1 c2 a b M:Nat)(K:List It→St→Prop)(R:SV→List HO→Prop):W (xwp Tryz.prog X K31 [] 60 (qK Tryz.f97 [] [⟨[0,1,0,1,1,1],[2,3,4,5,6,7],[]⟩]) [] (.at [0,0,1,0,1,1,1]::.rnd [0,0,1,0,1,1,1] M::[.blk 0,.at [1,1,1,1]]) ⟨[(2,.p 0 0),(3,.p 1 0),(4,.p 2 0),(5,.p 3 0),(6,.v (.int .u64 (c2:Nat))),(7,.v (.int .i64 2))],[.cells [.v (.int .u64 (qB a 0:Nat)),.v (.int .u64 (qB a 1:Nat)),.v (.int .u64 (qB a 2:Nat)),.v (.int .u64 (qB a 3:Nat))] 53,.cells [.v (.int .u64 (qB b 0:Nat)),.v (.int .u64 (qB b 1:Nat)),.v (.int .u64 (qB b 2:Nat)),.v (.int .u64 (qB b 3:Nat))] 53,.cells [.v (.int .u64 0),.v (.int .u64 0),.v (.int .u64 0),.v (.int .u64 0)] 53,.cells [.v (.int .u64 (o0:Nat)),.v (.int .u64 (o1:Nat)),.v (.int .u64 0),.v (.int .u64 0)] 53]⟩ K R)=W ((∀ M:Mem,(0:Int)≤(2:Int)∧(2:Int)<(4:Int))∧(∀ M:Mem,(0:Int)≤(2:Int)∧(2:Int)<(4:Int))∧(∀ M:Mem,(0:Int)≤(2:Int)∧(2:Int)<(4:Int))∧(∀ M:Mem,2+1≤4)∧(∀ M:Mem,(0:Int)≤(2:Int)∧(2:Int)<(4:Int))∧(∀ M:Mem,(0:Int)≤(2:Int)∧(2:Int)<(4:Int))∧bif decide ((↑(qB a 2):Int)<(↑(qB b 2):Int)) then K [.rnd [0,0,1,0,1,1,1] M,.blk 0,.at [1,1,1,1]] (St.mk [(2,.p 0 0),(3,.p 1 0),(4,.p 2 0),(5,.p 3 0),(6,.v (qC 1)),(7,.v (qA 3))] [.cells [.v (qC (↑(qB a 0):Int)),.v (qC (↑(qB a 1):Int)),.v (qC (↑(qB a 2):Int)),.v (qC (↑(qB a 3):Int))] 53,.cells [.v (qC (↑(qB b 0):Int)),.v (qC (↑(qB b 1):Int)),.v (qC (↑(qB b 2):Int)),.v (qC (↑(qB b 3):Int))] 53,.cells [.v (qC 0),.v (qC 0),.v (qC 0),.v (qC 0)] 53,.cells [.v (qC (↑o0:Int)),.v (qC (↑o1:Int)),.v (qC (IntKind.wrap IntKind.u64 (IntKind.wrap IntKind.u64 ((↑(qB a 2):Int)-(↑(qB b 2):Int))-(↑c2:Int)))),.v (qC 0)] 53]) else bif decide (IntKind.wrap IntKind.u64 ((↑(qB a 2):Int)-(↑(qB b 2):Int))<(↑c2:Int)) then K [.rnd [0,0,1,0,1,1,1] M,.blk 0,.at [1,1,1,1]] (St.mk [(2,.p 0 0),(3,.p 1 0),(4,.p 2 0),(5,.p 3 0),(6,.v (qC 1)),(7,.v (qA 3))] [.cells [.v (qC (↑(qB a 0):Int)),.v (qC (↑(qB a 1):Int)),.v (qC (↑(qB a 2):Int)),.v (qC (↑(qB a 3):Int))] 53,.cells [.v (qC (↑(qB b 0):Int)),.v (qC (↑(qB b 1):Int)),.v (qC (↑(qB b 2):Int)),.v (qC (↑(qB b 3):Int))] 53,.cells [.v (qC 0),.v (qC 0),.v (qC 0),.v (qC 0)] 53,.cells [.v (qC (↑o0:Int)),.v (qC (↑o1:Int)),.v (qC (IntKind.wrap IntKind.u64 (IntKind.wrap IntKind.u64 ((↑(qB a 2):Int)-(↑(qB b 2):Int))-(↑c2:Int)))),.v (qC 0)] 53]) else K [.rnd [0,0,1,0,1,1,1] M,.blk 0,.at [1,1,1,1]] (St.mk [(2,.p 0 0),(3,.p 1 0),(4,.p 2 0),(5,.p 3 0),(6,.v (qC 0)),(7,.v (qA 3))] [.cells [.v (qC (↑(qB a 0):Int)),.v (qC (↑(qB a 1):Int)),.v (qC (↑(qB a 2):Int)),.v (qC (↑(qB a 3):Int))] 53,.cells [.v (qC (↑(qB b 0):Int)),.v (qC (↑(qB b 1):Int)),.v (qC (↑(qB b 2):Int)),.v (qC (↑(qB b 3):Int))] 53,.cells [.v (qC 0),.v (qC 0),.v (qC 0),.v (qC 0)] 53,.cells [.v (qC (↑o0:Int)),.v (qC (↑o1:Int)),.v (qC (IntKind.wrap IntKind.u64 (IntKind.wrap IntKind.u64 ((↑(qB a 2):Int)-(↑(qB b 2):Int))-(↑c2:Int)))),.v (qC 0)] 53])):=by kernel_rfl
theorem rm3(o0 o1 o2 c3 a b M:Nat)(K:List It→St→Prop)(R:SV→List HO→Prop):W (xwp Tryz.prog X K31 [] 60 (qK Tryz.f97 [] [⟨[0,1,0,1,1,1],[2,3,4,5,6,7],[]⟩]) [] (.at [0,0,1,0,1,1,1]::.rnd [0,0,1,0,1,1,1] M::[.blk 0,.at [1,1,1,1]]) ⟨[(2,.p 0 0),(3,.p 1 0),(4,.p 2 0),(5,.p 3 0),(6,.v (.int .u64 (c3:Nat))),(7,.v (.int .i64 3))],[.cells [.v (.int .u64 (qB a 0:Nat)),.v (.int .u64 (qB a 1:Nat)),.v (.int .u64 (qB a 2:Nat)),.v (.int .u64 (qB a 3:Nat))] 53,.cells [.v (.int .u64 (qB b 0:Nat)),.v (.int .u64 (qB b 1:Nat)),.v (.int .u64 (qB b 2:Nat)),.v (.int .u64 (qB b 3:Nat))] 53,.cells [.v (.int .u64 0),.v (.int .u64 0),.v (.int .u64 0),.v (.int .u64 0)] 53,.cells [.v (.int .u64 (o0:Nat)),.v (.int .u64 (o1:Nat)),.v (.int .u64 (o2:Nat)),.v (.int .u64 0)] 53]⟩ K R)=W ((∀ M:Mem,(0:Int)≤(3:Int)∧(3:Int)<(4:Int))∧(∀ M:Mem,(0:Int)≤(3:Int)∧(3:Int)<(4:Int))∧(∀ M:Mem,(0:Int)≤(3:Int)∧(3:Int)<(4:Int))∧(∀ M:Mem,3+1≤4)∧(∀ M:Mem,(0:Int)≤(3:Int)∧(3:Int)<(4:Int))∧(∀ M:Mem,(0:Int)≤(3:Int)∧(3:Int)<(4:Int))∧bif decide ((↑(qB a 3):Int)<(↑(qB b 3):Int)) then K [.rnd [0,0,1,0,1,1,1] M,.blk 0,.at [1,1,1,1]] (St.mk [(2,.p 0 0),(3,.p 1 0),(4,.p 2 0),(5,.p 3 0),(6,.v (qC 1)),(7,.v (qA 4))] [.cells [.v (qC (↑(qB a 0):Int)),.v (qC (↑(qB a 1):Int)),.v (qC (↑(qB a 2):Int)),.v (qC (↑(qB a 3):Int))] 53,.cells [.v (qC (↑(qB b 0):Int)),.v (qC (↑(qB b 1):Int)),.v (qC (↑(qB b 2):Int)),.v (qC (↑(qB b 3):Int))] 53,.cells [.v (qC 0),.v (qC 0),.v (qC 0),.v (qC 0)] 53,.cells [.v (qC (↑o0:Int)),.v (qC (↑o1:Int)),.v (qC (↑o2:Int)),.v (qC (IntKind.wrap IntKind.u64 (IntKind.wrap IntKind.u64 ((↑(qB a 3):Int)-(↑(qB b 3):Int))-(↑c3:Int))))] 53]) else bif decide (IntKind.wrap IntKind.u64 ((↑(qB a 3):Int)-(↑(qB b 3):Int))<(↑c3:Int)) then K [.rnd [0,0,1,0,1,1,1] M,.blk 0,.at [1,1,1,1]] (St.mk [(2,.p 0 0),(3,.p 1 0),(4,.p 2 0),(5,.p 3 0),(6,.v (qC 1)),(7,.v (qA 4))] [.cells [.v (qC (↑(qB a 0):Int)),.v (qC (↑(qB a 1):Int)),.v (qC (↑(qB a 2):Int)),.v (qC (↑(qB a 3):Int))] 53,.cells [.v (qC (↑(qB b 0):Int)),.v (qC (↑(qB b 1):Int)),.v (qC (↑(qB b 2):Int)),.v (qC (↑(qB b 3):Int))] 53,.cells [.v (qC 0),.v (qC 0),.v (qC 0),.v (qC 0)] 53,.cells [.v (qC (↑o0:Int)),.v (qC (↑o1:Int)),.v (qC (↑o2:Int)),.v (qC (IntKind.wrap IntKind.u64 (IntKind.wrap IntKind.u64 ((↑(qB a 3):Int)-(↑(qB b 3):Int))-(↑c3:Int))))] 53]) else K [.rnd [0,0,1,0,1,1,1] M,.blk 0,.at [1,1,1,1]] (St.mk [(2,.p 0 0),(3,.p 1 0),(4,.p 2 0),(5,.p 3 0),(6,.v (qC 0)),(7,.v (qA 4))] [.cells [.v (qC (↑(qB a 0):Int)),.v (qC (↑(qB a 1):Int)),.v (qC (↑(qB a 2):Int)),.v (qC (↑(qB a 3):Int))] 53,.cells [.v (qC (↑(qB b 0):Int)),.v (qC (↑(qB b 1):Int)),.v (qC (↑(qB b 2):Int)),.v (qC (↑(qB b 3):Int))] 53,.cells [.v (qC 0),.v (qC 0),.v (qC 0),.v (qC 0)] 53,.cells [.v (qC (↑o0:Int)),.v (qC (↑o1:Int)),.v (qC (↑o2:Int)),.v (qC (IntKind.wrap IntKind.u64 (IntKind.wrap IntKind.u64 ((↑(qB a 3):Int)-(↑(qB b 3):Int))-(↑c3:Int))))] 53])):=by kernel_rfl
theorem rm4(o0 o1 o2 o3 c4 a b M:Nat)(K:List It→St→Prop)(R:SV→List HO→Prop):W (xwp Tryz.prog X K31 [] 60 (qK Tryz.f97 [] [⟨[0,1,0,1,1,1],[2,3,4,5,6,7],[]⟩]) [] (.at [0,0,1,0,1,1,1]::.rnd [0,0,1,0,1,1,1] M::[.blk 0,.at [1,1,1,1]]) ⟨[(2,.p 0 0),(3,.p 1 0),(4,.p 2 0),(5,.p 3 0),(6,.v (.int .u64 (c4:Nat))),(7,.v (.int .i64 4))],[.cells [.v (.int .u64 (qB a 0:Nat)),.v (.int .u64 (qB a 1:Nat)),.v (.int .u64 (qB a 2:Nat)),.v (.int .u64 (qB a 3:Nat))] 53,.cells [.v (.int .u64 (qB b 0:Nat)),.v (.int .u64 (qB b 1:Nat)),.v (.int .u64 (qB b 2:Nat)),.v (.int .u64 (qB b 3:Nat))] 53,.cells [.v (.int .u64 0),.v (.int .u64 0),.v (.int .u64 0),.v (.int .u64 0)] 53,.cells [.v (.int .u64 (o0:Nat)),.v (.int .u64 (o1:Nat)),.v (.int .u64 (o2:Nat)),.v (.int .u64 (o3:Nat))] 53]⟩ K R)=W ((∀ M:Mem,0+4≤4)∧R (.agg [.v (qC (↑o0:Int)),.v (qC (↑o1:Int)),.v (qC (↑o2:Int)),.v (qC (↑o3:Int))]) []):=by kernel_rfl
theorem rpS(a b:Nat)(K:List It→St→Prop)(R:SV→List HO→Prop):W (xwp Tryz.prog X K31 [] 60 (qK Tryz.f141 [] [⟨[0,1,0,1,1,1],[2,3,4,5,6,7],[]⟩]) [] [.at []] ⟨qR 0 [eS a,eS b],[]⟩ K R)=W ((∀ M:Mem,4≤4)∧K [.at [0,1,0,1,1,1],.blk 0,.at [1,1,1,1]] (St.mk [(2,.p 0 0),(3,.p 1 0),(4,.p 2 0),(5,.p 3 0),(6,.v (qC 0)),(7,.v (qA 0))] [.cells [.v (qC (↑(qB a 0):Int)),.v (qC (↑(qB a 1):Int)),.v (qC (↑(qB a 2):Int)),.v (qC (↑(qB a 3):Int))] 53,.cells [.v (qC (↑(qB b 0):Int)),.v (qC (↑(qB b 1):Int)),.v (qC (↑(qB b 2):Int)),.v (qC (↑(qB b 3):Int))] 53,.cells [.v (qC 0),.v (qC 0),.v (qC 0),.v (qC 0)] 53,.cells [.v (qC 0),.v (qC 0),.v (qC 0),.v (qC 0)] 53])):=by kernel_rfl
theorem rp0(c0 a b M:Nat)(K:List It→St→Prop)(R:SV→List HO→Prop):W (xwp Tryz.prog X K31 [] 60 (qK Tryz.f141 [] [⟨[0,1,0,1,1,1],[2,3,4,5,6,7],[]⟩]) [] (.at [0,0,1,0,1,1,1]::.rnd [0,0,1,0,1,1,1] M::[.blk 0,.at [1,1,1,1]]) ⟨[(2,.p 0 0),(3,.p 1 0),(4,.p 2 0),(5,.p 3 0),(6,.v (.int .u64 (c0:Nat))),(7,.v (.int .i64 0))],[.cells [.v (.int .u64 (qB a 0:Nat)),.v (.int .u64 (qB a 1:Nat)),.v (.int .u64 (qB a 2:Nat)),.v (.int .u64 (qB a 3:Nat))] 53,.cells [.v (.int .u64 (qB b 0:Nat)),.v (.int .u64 (qB b 1:Nat)),.v (.int .u64 (qB b 2:Nat)),.v (.int .u64 (qB b 3:Nat))] 53,.cells [.v (.int .u64 0),.v (.int .u64 0),.v (.int .u64 0),.v (.int .u64 0)] 53,.cells [.v (.int .u64 0),.v (.int .u64 0),.v (.int .u64 0),.v (.int .u64 0)] 53]⟩ K R)=W ((∀ M:Mem,(0:Int)≤(0:Int)∧(0:Int)<(4:Int))∧(∀ M:Mem,(0:Int)≤(0:Int)∧(0:Int)<(4:Int))∧(∀ M:Mem,(0:Int)≤(0:Int)∧(0:Int)<(4:Int))∧(∀ M:Mem,0+1≤4)∧(∀ M:Mem,(0:Int)≤(0:Int)∧(0:Int)<(4:Int))∧bif decide (IntKind.wrap IntKind.u64 ((↑(qB a 0):Int)+(↑(qB b 0):Int))<(↑(qB a 0):Int)) then K [.rnd [0,0,1,0,1,1,1] M,.blk 0,.at [1,1,1,1]] (St.mk [(2,.p 0 0),(3,.p 1 0),(4,.p 2 0),(5,.p 3 0),(6,.v (qC 1)),(7,.v (qA 1))] [.cells [.v (qC (↑(qB a 0):Int)),.v (qC (↑(qB a 1):Int)),.v (qC (↑(qB a 2):Int)),.v (qC (↑(qB a 3):Int))] 53,.cells [.v (qC (↑(qB b 0):Int)),.v (qC (↑(qB b 1):Int)),.v (qC (↑(qB b 2):Int)),.v (qC (↑(qB b 3):Int))] 53,.cells [.v (qC 0),.v (qC 0),.v (qC 0),.v (qC 0)] 53,.cells [.v (qC (IntKind.wrap IntKind.u64 (IntKind.wrap IntKind.u64 ((↑(qB a 0):Int)+(↑(qB b 0):Int))+(↑c0:Int)))),.v (qC 0),.v (qC 0),.v (qC 0)] 53]) else(∀ M:Mem,(0:Int)≤(0:Int)∧(0:Int)<(4:Int))∧bif decide (IntKind.wrap IntKind.u64 (IntKind.wrap IntKind.u64 ((↑(qB a 0):Int)+(↑(qB b 0):Int))+(↑c0:Int))<IntKind.wrap IntKind.u64 ((↑(qB a 0):Int)+(↑(qB b 0):Int))) then K [.rnd [0,0,1,0,1,1,1] M,.blk 0,.at [1,1,1,1]] (St.mk [(2,.p 0 0),(3,.p 1 0),(4,.p 2 0),(5,.p 3 0),(6,.v (qC 1)),(7,.v (qA 1))] [.cells [.v (qC (↑(qB a 0):Int)),.v (qC (↑(qB a 1):Int)),.v (qC (↑(qB a 2):Int)),.v (qC (↑(qB a 3):Int))] 53,.cells [.v (qC (↑(qB b 0):Int)),.v (qC (↑(qB b 1):Int)),.v (qC (↑(qB b 2):Int)),.v (qC (↑(qB b 3):Int))] 53,.cells [.v (qC 0),.v (qC 0),.v (qC 0),.v (qC 0)] 53,.cells [.v (qC (IntKind.wrap IntKind.u64 (IntKind.wrap IntKind.u64 ((↑(qB a 0):Int)+(↑(qB b 0):Int))+(↑c0:Int)))),.v (qC 0),.v (qC 0),.v (qC 0)] 53]) else K [.rnd [0,0,1,0,1,1,1] M,.blk 0,.at [1,1,1,1]] (St.mk [(2,.p 0 0),(3,.p 1 0),(4,.p 2 0),(5,.p 3 0),(6,.v (qC 0)),(7,.v (qA 1))] [.cells [.v (qC (↑(qB a 0):Int)),.v (qC (↑(qB a 1):Int)),.v (qC (↑(qB a 2):Int)),.v (qC (↑(qB a 3):Int))] 53,.cells [.v (qC (↑(qB b 0):Int)),.v (qC (↑(qB b 1):Int)),.v (qC (↑(qB b 2):Int)),.v (qC (↑(qB b 3):Int))] 53,.cells [.v (qC 0),.v (qC 0),.v (qC 0),.v (qC 0)] 53,.cells [.v (qC (IntKind.wrap IntKind.u64 (IntKind.wrap IntKind.u64 ((↑(qB a 0):Int)+(↑(qB b 0):Int))+(↑c0:Int)))),.v (qC 0),.v (qC 0),.v (qC 0)] 53])):=by kernel_rfl
theorem rp1(o0 c1 a b M:Nat)(K:List It→St→Prop)(R:SV→List HO→Prop):W (xwp Tryz.prog X K31 [] 60 (qK Tryz.f141 [] [⟨[0,1,0,1,1,1],[2,3,4,5,6,7],[]⟩]) [] (.at [0,0,1,0,1,1,1]::.rnd [0,0,1,0,1,1,1] M::[.blk 0,.at [1,1,1,1]]) ⟨[(2,.p 0 0),(3,.p 1 0),(4,.p 2 0),(5,.p 3 0),(6,.v (.int .u64 (c1:Nat))),(7,.v (.int .i64 1))],[.cells [.v (.int .u64 (qB a 0:Nat)),.v (.int .u64 (qB a 1:Nat)),.v (.int .u64 (qB a 2:Nat)),.v (.int .u64 (qB a 3:Nat))] 53,.cells [.v (.int .u64 (qB b 0:Nat)),.v (.int .u64 (qB b 1:Nat)),.v (.int .u64 (qB b 2:Nat)),.v (.int .u64 (qB b 3:Nat))] 53,.cells [.v (.int .u64 0),.v (.int .u64 0),.v (.int .u64 0),.v (.int .u64 0)] 53,.cells [.v (.int .u64 (o0:Nat)),.v (.int .u64 0),.v (.int .u64 0),.v (.int .u64 0)] 53]⟩ K R)=W ((∀ M:Mem,(0:Int)≤(1:Int)∧(1:Int)<(4:Int))∧(∀ M:Mem,(0:Int)≤(1:Int)∧(1:Int)<(4:Int))∧(∀ M:Mem,(0:Int)≤(1:Int)∧(1:Int)<(4:Int))∧(∀ M:Mem,1+1≤4)∧(∀ M:Mem,(0:Int)≤(1:Int)∧(1:Int)<(4:Int))∧bif decide (IntKind.wrap IntKind.u64 ((↑(qB a 1):Int)+(↑(qB b 1):Int))<(↑(qB a 1):Int)) then K [.rnd [0,0,1,0,1,1,1] M,.blk 0,.at [1,1,1,1]] (St.mk [(2,.p 0 0),(3,.p 1 0),(4,.p 2 0),(5,.p 3 0),(6,.v (qC 1)),(7,.v (qA 2))] [.cells [.v (qC (↑(qB a 0):Int)),.v (qC (↑(qB a 1):Int)),.v (qC (↑(qB a 2):Int)),.v (qC (↑(qB a 3):Int))] 53,.cells [.v (qC (↑(qB b 0):Int)),.v (qC (↑(qB b 1):Int)),.v (qC (↑(qB b 2):Int)),.v (qC (↑(qB b 3):Int))] 53,.cells [.v (qC 0),.v (qC 0),.v (qC 0),.v (qC 0)] 53,.cells [.v (qC (↑o0:Int)),.v (qC (IntKind.wrap IntKind.u64 (IntKind.wrap IntKind.u64 ((↑(qB a 1):Int)+(↑(qB b 1):Int))+(↑c1:Int)))),.v (qC 0),.v (qC 0)] 53]) else(∀ M:Mem,(0:Int)≤(1:Int)∧(1:Int)<(4:Int))∧bif decide (IntKind.wrap IntKind.u64 (IntKind.wrap IntKind.u64 ((↑(qB a 1):Int)+(↑(qB b 1):Int))+(↑c1:Int))<IntKind.wrap IntKind.u64 ((↑(qB a 1):Int)+(↑(qB b 1):Int))) then K [.rnd [0,0,1,0,1,1,1] M,.blk 0,.at [1,1,1,1]] (St.mk [(2,.p 0 0),(3,.p 1 0),(4,.p 2 0),(5,.p 3 0),(6,.v (qC 1)),(7,.v (qA 2))] [.cells [.v (qC (↑(qB a 0):Int)),.v (qC (↑(qB a 1):Int)),.v (qC (↑(qB a 2):Int)),.v (qC (↑(qB a 3):Int))] 53,.cells [.v (qC (↑(qB b 0):Int)),.v (qC (↑(qB b 1):Int)),.v (qC (↑(qB b 2):Int)),.v (qC (↑(qB b 3):Int))] 53,.cells [.v (qC 0),.v (qC 0),.v (qC 0),.v (qC 0)] 53,.cells [.v (qC (↑o0:Int)),.v (qC (IntKind.wrap IntKind.u64 (IntKind.wrap IntKind.u64 ((↑(qB a 1):Int)+(↑(qB b 1):Int))+(↑c1:Int)))),.v (qC 0),.v (qC 0)] 53]) else K [.rnd [0,0,1,0,1,1,1] M,.blk 0,.at [1,1,1,1]] (St.mk [(2,.p 0 0),(3,.p 1 0),(4,.p 2 0),(5,.p 3 0),(6,.v (qC 0)),(7,.v (qA 2))] [.cells [.v (qC (↑(qB a 0):Int)),.v (qC (↑(qB a 1):Int)),.v (qC (↑(qB a 2):Int)),.v (qC (↑(qB a 3):Int))] 53,.cells [.v (qC (↑(qB b 0):Int)),.v (qC (↑(qB b 1):Int)),.v (qC (↑(qB b 2):Int)),.v (qC (↑(qB b 3):Int))] 53,.cells [.v (qC 0),.v (qC 0),.v (qC 0),.v (qC 0)] 53,.cells [.v (qC (↑o0:Int)),.v (qC (IntKind.wrap IntKind.u64 (IntKind.wrap IntKind.u64 ((↑(qB a 1):Int)+(↑(qB b 1):Int))+(↑c1:Int)))),.v (qC 0),.v (qC 0)] 53])):=by kernel_rfl
theorem rp2(o0 o1 c2 a b M:Nat)(K:List It→St→Prop)(R:SV→List HO→Prop):W (xwp Tryz.prog X K31 [] 60 (qK Tryz.f141 [] [⟨[0,1,0,1,1,1],[2,3,4,5,6,7],[]⟩]) [] (.at [0,0,1,0,1,1,1]::.rnd [0,0,1,0,1,1,1] M::[.blk 0,.at [1,1,1,1]]) ⟨[(2,.p 0 0),(3,.p 1 0),(4,.p 2 0),(5,.p 3 0),(6,.v (.int .u64 (c2:Nat))),(7,.v (.int .i64 2))],[.cells [.v (.int .u64 (qB a 0:Nat)),.v (.int .u64 (qB a 1:Nat)),.v (.int .u64 (qB a 2:Nat)),.v (.int .u64 (qB a 3:Nat))] 53,.cells [.v (.int .u64 (qB b 0:Nat)),.v (.int .u64 (qB b 1:Nat)),.v (.int .u64 (qB b 2:Nat)),.v (.int .u64 (qB b 3:Nat))] 53,.cells [.v (.int .u64 0),.v (.int .u64 0),.v (.int .u64 0),.v (.int .u64 0)] 53,.cells [.v (.int .u64 (o0:Nat)),.v (.int .u64 (o1:Nat)),.v (.int .u64 0),.v (.int .u64 0)] 53]⟩ K R)=W ((∀ M:Mem,(0:Int)≤(2:Int)∧(2:Int)<(4:Int))∧(∀ M:Mem,(0:Int)≤(2:Int)∧(2:Int)<(4:Int))∧(∀ M:Mem,(0:Int)≤(2:Int)∧(2:Int)<(4:Int))∧(∀ M:Mem,2+1≤4)∧(∀ M:Mem,(0:Int)≤(2:Int)∧(2:Int)<(4:Int))∧bif decide (IntKind.wrap IntKind.u64 ((↑(qB a 2):Int)+(↑(qB b 2):Int))<(↑(qB a 2):Int)) then K [.rnd [0,0,1,0,1,1,1] M,.blk 0,.at [1,1,1,1]] (St.mk [(2,.p 0 0),(3,.p 1 0),(4,.p 2 0),(5,.p 3 0),(6,.v (qC 1)),(7,.v (qA 3))] [.cells [.v (qC (↑(qB a 0):Int)),.v (qC (↑(qB a 1):Int)),.v (qC (↑(qB a 2):Int)),.v (qC (↑(qB a 3):Int))] 53,.cells [.v (qC (↑(qB b 0):Int)),.v (qC (↑(qB b 1):Int)),.v (qC (↑(qB b 2):Int)),.v (qC (↑(qB b 3):Int))] 53,.cells [.v (qC 0),.v (qC 0),.v (qC 0),.v (qC 0)] 53,.cells [.v (qC (↑o0:Int)),.v (qC (↑o1:Int)),.v (qC (IntKind.wrap IntKind.u64 (IntKind.wrap IntKind.u64 ((↑(qB a 2):Int)+(↑(qB b 2):Int))+(↑c2:Int)))),.v (qC 0)] 53]) else(∀ M:Mem,(0:Int)≤(2:Int)∧(2:Int)<(4:Int))∧bif decide (IntKind.wrap IntKind.u64 (IntKind.wrap IntKind.u64 ((↑(qB a 2):Int)+(↑(qB b 2):Int))+(↑c2:Int))<IntKind.wrap IntKind.u64 ((↑(qB a 2):Int)+(↑(qB b 2):Int))) then K [.rnd [0,0,1,0,1,1,1] M,.blk 0,.at [1,1,1,1]] (St.mk [(2,.p 0 0),(3,.p 1 0),(4,.p 2 0),(5,.p 3 0),(6,.v (qC 1)),(7,.v (qA 3))] [.cells [.v (qC (↑(qB a 0):Int)),.v (qC (↑(qB a 1):Int)),.v (qC (↑(qB a 2):Int)),.v (qC (↑(qB a 3):Int))] 53,.cells [.v (qC (↑(qB b 0):Int)),.v (qC (↑(qB b 1):Int)),.v (qC (↑(qB b 2):Int)),.v (qC (↑(qB b 3):Int))] 53,.cells [.v (qC 0),.v (qC 0),.v (qC 0),.v (qC 0)] 53,.cells [.v (qC (↑o0:Int)),.v (qC (↑o1:Int)),.v (qC (IntKind.wrap IntKind.u64 (IntKind.wrap IntKind.u64 ((↑(qB a 2):Int)+(↑(qB b 2):Int))+(↑c2:Int)))),.v (qC 0)] 53]) else K [.rnd [0,0,1,0,1,1,1] M,.blk 0,.at [1,1,1,1]] (St.mk [(2,.p 0 0),(3,.p 1 0),(4,.p 2 0),(5,.p 3 0),(6,.v (qC 0)),(7,.v (qA 3))] [.cells [.v (qC (↑(qB a 0):Int)),.v (qC (↑(qB a 1):Int)),.v (qC (↑(qB a 2):Int)),.v (qC (↑(qB a 3):Int))] 53,.cells [.v (qC (↑(qB b 0):Int)),.v (qC (↑(qB b 1):Int)),.v (qC (↑(qB b 2):Int)),.v (qC (↑(qB b 3):Int))] 53,.cells [.v (qC 0),.v (qC 0),.v (qC 0),.v (qC 0)] 53,.cells [.v (qC (↑o0:Int)),.v (qC (↑o1:Int)),.v (qC (IntKind.wrap IntKind.u64 (IntKind.wrap IntKind.u64 ((↑(qB a 2):Int)+(↑(qB b 2):Int))+(↑c2:Int)))),.v (qC 0)] 53])):=by kernel_rfl
theorem rp3(o0 o1 o2 c3 a b M:Nat)(K:List It→St→Prop)(R:SV→List HO→Prop):W (xwp Tryz.prog X K31 [] 60 (qK Tryz.f141 [] [⟨[0,1,0,1,1,1],[2,3,4,5,6,7],[]⟩]) [] (.at [0,0,1,0,1,1,1]::.rnd [0,0,1,0,1,1,1] M::[.blk 0,.at [1,1,1,1]]) ⟨[(2,.p 0 0),(3,.p 1 0),(4,.p 2 0),(5,.p 3 0),(6,.v (.int .u64 (c3:Nat))),(7,.v (.int .i64 3))],[.cells [.v (.int .u64 (qB a 0:Nat)),.v (.int .u64 (qB a 1:Nat)),.v (.int .u64 (qB a 2:Nat)),.v (.int .u64 (qB a 3:Nat))] 53,.cells [.v (.int .u64 (qB b 0:Nat)),.v (.int .u64 (qB b 1:Nat)),.v (.int .u64 (qB b 2:Nat)),.v (.int .u64 (qB b 3:Nat))] 53,.cells [.v (.int .u64 0),.v (.int .u64 0),.v (.int .u64 0),.v (.int .u64 0)] 53,.cells [.v (.int .u64 (o0:Nat)),.v (.int .u64 (o1:Nat)),.v (.int .u64 (o2:Nat)),.v (.int .u64 0)] 53]⟩ K R)=W ((∀ M:Mem,(0:Int)≤(3:Int)∧(3:Int)<(4:Int))∧(∀ M:Mem,(0:Int)≤(3:Int)∧(3:Int)<(4:Int))∧(∀ M:Mem,(0:Int)≤(3:Int)∧(3:Int)<(4:Int))∧(∀ M:Mem,3+1≤4)∧(∀ M:Mem,(0:Int)≤(3:Int)∧(3:Int)<(4:Int))∧bif decide (IntKind.wrap IntKind.u64 ((↑(qB a 3):Int)+(↑(qB b 3):Int))<(↑(qB a 3):Int)) then K [.rnd [0,0,1,0,1,1,1] M,.blk 0,.at [1,1,1,1]] (St.mk [(2,.p 0 0),(3,.p 1 0),(4,.p 2 0),(5,.p 3 0),(6,.v (qC 1)),(7,.v (qA 4))] [.cells [.v (qC (↑(qB a 0):Int)),.v (qC (↑(qB a 1):Int)),.v (qC (↑(qB a 2):Int)),.v (qC (↑(qB a 3):Int))] 53,.cells [.v (qC (↑(qB b 0):Int)),.v (qC (↑(qB b 1):Int)),.v (qC (↑(qB b 2):Int)),.v (qC (↑(qB b 3):Int))] 53,.cells [.v (qC 0),.v (qC 0),.v (qC 0),.v (qC 0)] 53,.cells [.v (qC (↑o0:Int)),.v (qC (↑o1:Int)),.v (qC (↑o2:Int)),.v (qC (IntKind.wrap IntKind.u64 (IntKind.wrap IntKind.u64 ((↑(qB a 3):Int)+(↑(qB b 3):Int))+(↑c3:Int))))] 53]) else(∀ M:Mem,(0:Int)≤(3:Int)∧(3:Int)<(4:Int))∧bif decide (IntKind.wrap IntKind.u64 (IntKind.wrap IntKind.u64 ((↑(qB a 3):Int)+(↑(qB b 3):Int))+(↑c3:Int))<IntKind.wrap IntKind.u64 ((↑(qB a 3):Int)+(↑(qB b 3):Int))) then K [.rnd [0,0,1,0,1,1,1] M,.blk 0,.at [1,1,1,1]] (St.mk [(2,.p 0 0),(3,.p 1 0),(4,.p 2 0),(5,.p 3 0),(6,.v (qC 1)),(7,.v (qA 4))] [.cells [.v (qC (↑(qB a 0):Int)),.v (qC (↑(qB a 1):Int)),.v (qC (↑(qB a 2):Int)),.v (qC (↑(qB a 3):Int))] 53,.cells [.v (qC (↑(qB b 0):Int)),.v (qC (↑(qB b 1):Int)),.v (qC (↑(qB b 2):Int)),.v (qC (↑(qB b 3):Int))] 53,.cells [.v (qC 0),.v (qC 0),.v (qC 0),.v (qC 0)] 53,.cells [.v (qC (↑o0:Int)),.v (qC (↑o1:Int)),.v (qC (↑o2:Int)),.v (qC (IntKind.wrap IntKind.u64 (IntKind.wrap IntKind.u64 ((↑(qB a 3):Int)+(↑(qB b 3):Int))+(↑c3:Int))))] 53]) else K [.rnd [0,0,1,0,1,1,1] M,.blk 0,.at [1,1,1,1]] (St.mk [(2,.p 0 0),(3,.p 1 0),(4,.p 2 0),(5,.p 3 0),(6,.v (qC 0)),(7,.v (qA 4))] [.cells [.v (qC (↑(qB a 0):Int)),.v (qC (↑(qB a 1):Int)),.v (qC (↑(qB a 2):Int)),.v (qC (↑(qB a 3):Int))] 53,.cells [.v (qC (↑(qB b 0):Int)),.v (qC (↑(qB b 1):Int)),.v (qC (↑(qB b 2):Int)),.v (qC (↑(qB b 3):Int))] 53,.cells [.v (qC 0),.v (qC 0),.v (qC 0),.v (qC 0)] 53,.cells [.v (qC (↑o0:Int)),.v (qC (↑o1:Int)),.v (qC (↑o2:Int)),.v (qC (IntKind.wrap IntKind.u64 (IntKind.wrap IntKind.u64 ((↑(qB a 3):Int)+(↑(qB b 3):Int))+(↑c3:Int))))] 53])):=by kernel_rfl
theorem rp4(o0 o1 o2 o3 c4 a b M:Nat)(K:List It→St→Prop)(R:SV→List HO→Prop):W (xwp Tryz.prog X K31 [] 60 (qK Tryz.f141 [] [⟨[0,1,0,1,1,1],[2,3,4,5,6,7],[]⟩]) [] (.at [0,0,1,0,1,1,1]::.rnd [0,0,1,0,1,1,1] M::[.blk 0,.at [1,1,1,1]]) ⟨[(2,.p 0 0),(3,.p 1 0),(4,.p 2 0),(5,.p 3 0),(6,.v (.int .u64 (c4:Nat))),(7,.v (.int .i64 4))],[.cells [.v (.int .u64 (qB a 0:Nat)),.v (.int .u64 (qB a 1:Nat)),.v (.int .u64 (qB a 2:Nat)),.v (.int .u64 (qB a 3:Nat))] 53,.cells [.v (.int .u64 (qB b 0:Nat)),.v (.int .u64 (qB b 1:Nat)),.v (.int .u64 (qB b 2:Nat)),.v (.int .u64 (qB b 3:Nat))] 53,.cells [.v (.int .u64 0),.v (.int .u64 0),.v (.int .u64 0),.v (.int .u64 0)] 53,.cells [.v (.int .u64 (o0:Nat)),.v (.int .u64 (o1:Nat)),.v (.int .u64 (o2:Nat)),.v (.int .u64 (o3:Nat))] 53]⟩ K R)=W ((∀ M:Mem,0+4≤4)∧R (.agg [.v (qC (↑o0:Int)),.v (qC (↑o1:Int)),.v (qC (↑o2:Int)),.v (qC (↑o3:Int))]) []):=by kernel_rfl
theorem bRb:Tryz.f96.body.isSome=true:=by kernel_rfl
theorem nRb(a b:Nat):Nat.ble [eS a,eS b].length Tryz.f96.ntmps=true:=by kernel_rfl
theorem zRy(a b:Nat)(ha:a<top)(hb:b<top)(Q:SV→List HO→Prop)(hq:Q (.v (.bool (decide (a<b)))) []):qI Tryz.prog 96 [eS a,eS b] [] Q:=by
 have na:=xE a ha
 have nb:=xE b hb
 simp only[nv] at na nb
 have a0:=qO a 0
 have a1:=qO a 1
 have a2:=qO a 2
 have b0:=qO b 0
 have b1:=qO b 1
 have b2:=qO b 2
 refine qJ Tryz.func96 bRb ?_ ?_
 ·exact nRb a b
 refine qD hm 60 ((rbS a b _ _).mpr ⟨?_⟩)
 simp only[qN,qT,forall_const]
 generalize qB a 0=x0 at *
 generalize qB a 1=x1 at *
 generalize qB a 2=x2 at *
 generalize qB a 3=x3 at *
 generalize qB b 0=y0 at *
 generalize qB b 1=y1 at *
 generalize qB b 2=y2 at *
 generalize qB b 3=y3 at *
 have fin:∀ x y:Nat,((x<y)↔(a<b))→Q (.v (.bool (decide ((x:Int)<(y:Int))))) []:=fun x y h=>by
  rw[show decide ((x:Int)<(y:Int))=decide (a<b) by rw[decide_eq_decide]; omega]
  exact hq
 refine And.intro (by omega) (And.intro (by omega) (qE (fun h3=>?_) (fun h3=>?_)))
 ·refine And.intro (by omega) (And.intro (by omega) (qE (fun h2=>?_) (fun h2=>?_)))
  ·refine And.intro (by omega) (And.intro (by omega) (qE (fun h1=>?_) (fun h1=>?_)))
   ·refine And.intro (by omega) (And.intro (by omega) (qE (fun h0=>?_) (fun h0=>?_)))
    ·rw[decide_eq_false (by omega)] at hq; exact hq
    ·exact And.intro (by omega) (And.intro (by omega) (fin x0 y0 (by omega)))
   ·exact And.intro (by omega) (And.intro (by omega) (fin x1 y1 (by omega)))
  ·exact And.intro (by omega) (And.intro (by omega) (fin x2 y2 (by omega)))
 ·exact And.intro (by omega) (And.intro (by omega) (fin x3 y3 (by omega)))
noncomputable def gRb:List SV→List HO→Option ((SV→List HO→Prop)→Prop)
 | [.agg [.v (.int .u64 a0),.v (.int .u64 a1),.v (.int .u64 a2),.v (.int .u64 a3)],.agg [.v (.int .u64 b0),.v (.int .u64 b1),.v (.int .u64 b2),.v (.int .u64 b3)]],[]=>some fun Q=>c2C [a0,a1,a2,a3] [b0,b1,b2,b3] fun a b=>Q (.v (.bool (decide (a<b)))) []
 | _,_=>none
theorem zPg(args:List SV)(h:List HO)(tr:(SV→List HO→Prop)→Prop)(Q:SV→List HO→Prop)(hc:gRb args h=some tr)(ht:tr Q):qI Tryz.prog 96 args h Q:=by
 unfold gRb at hc
 split at hc
 ·rename_i a0 a1 a2 a3 b0 b1 b2 b3
  simp only[sI] at hc
  subst hc
  obtain⟨a,b,e1,e2,ha,hb,hq⟩:=ht.h
  simp only[List.cons.injEq,and_true] at e1 e2
  obtain⟨rfl,rfl,rfl,rfl⟩:=e1
  obtain⟨rfl,rfl,rfl,rfl⟩:=e2
  exact zRy a b ha hb Q hq
 ·cases hc
theorem zUb(o0 o1 o2 o3 c4 a b:Nat)(Q:SV→List HO→Prop)(hq:Q (.agg [.v (.int .u64 (o0:Nat)),.v (.int .u64 (o1:Nat)),.v (.int .u64 (o2:Nat)),.v (.int .u64 (o3:Nat))]) []):FOk Tryz.prog Tryz.f97 Q (.rnd [0,0,1,0,1,1,1] 1::[.blk 0,.at [1,1,1,1]]) ⟨[(2,.p 0 0),(3,.p 1 0),(4,.p 2 0),(5,.p 3 0),(6,.v (.int .u64 (c4:Nat))),(7,.v (.int .i64 4))],[.cells [.v (.int .u64 (qB a 0:Nat)),.v (.int .u64 (qB a 1:Nat)),.v (.int .u64 (qB a 2:Nat)),.v (.int .u64 (qB a 3:Nat))] 53,.cells [.v (.int .u64 (qB b 0:Nat)),.v (.int .u64 (qB b 1:Nat)),.v (.int .u64 (qB b 2:Nat)),.v (.int .u64 (qB b 3:Nat))] 53,.cells [.v (.int .u64 0),.v (.int .u64 0),.v (.int .u64 0),.v (.int .u64 0)] 53,.cells [.v (.int .u64 (o0:Nat)),.v (.int .u64 (o1:Nat)),.v (.int .u64 (o2:Nat)),.v (.int .u64 (o3:Nat))] 53]⟩:=by
 refine FOk.rnd (qD hm 60 ((rm4 o0 o1 o2 o3 c4 a b 0 _ _).mpr ⟨?_⟩))
 exact And.intro (fun _=>by omega) hq
theorem zWx(o0 o1 o2 c3 a b:Nat)(hc:c3≤1)(Q:SV→List HO→Prop)(hq:∀ o3 c4:Nat,qB a 3+18446744073709551616*c4=o3+qB b 3+c3→o3<18446744073709551616→c4≤1→Q (.agg [.v (.int .u64 (o0:Nat)),.v (.int .u64 (o1:Nat)),.v (.int .u64 (o2:Nat)),.v (.int .u64 (o3:Nat))]) []):FOk Tryz.prog Tryz.f97 Q (.rnd [0,0,1,0,1,1,1] 2::[.blk 0,.at [1,1,1,1]]) ⟨[(2,.p 0 0),(3,.p 1 0),(4,.p 2 0),(5,.p 3 0),(6,.v (.int .u64 (c3:Nat))),(7,.v (.int .i64 3))],[.cells [.v (.int .u64 (qB a 0:Nat)),.v (.int .u64 (qB a 1:Nat)),.v (.int .u64 (qB a 2:Nat)),.v (.int .u64 (qB a 3:Nat))] 53,.cells [.v (.int .u64 (qB b 0:Nat)),.v (.int .u64 (qB b 1:Nat)),.v (.int .u64 (qB b 2:Nat)),.v (.int .u64 (qB b 3:Nat))] 53,.cells [.v (.int .u64 0),.v (.int .u64 0),.v (.int .u64 0),.v (.int .u64 0)] 53,.cells [.v (.int .u64 (o0:Nat)),.v (.int .u64 (o1:Nat)),.v (.int .u64 (o2:Nat)),.v (.int .u64 0)] 53]⟩:=by
 obtain⟨o3,ol,e,e1,e2,e3⟩:=mst (qB a 3) (qB b 3) c3 (qO a 3) (qO b 3) hc
 have next:∀ c4:Nat,c4≤1→qB a 3+18446744073709551616*c4=o3+qB b 3+c3→FOk Tryz.prog Tryz.f97 Q (.rnd [0,0,1,0,1,1,1] 1::[.blk 0,.at [1,1,1,1]]) ⟨[(2,.p 0 0),(3,.p 1 0),(4,.p 2 0),(5,.p 3 0),(6,.v (.int .u64 (c4:Nat))),(7,.v (.int .i64 4))],[.cells [.v (.int .u64 (qB a 0:Nat)),.v (.int .u64 (qB a 1:Nat)),.v (.int .u64 (qB a 2:Nat)),.v (.int .u64 (qB a 3:Nat))] 53,.cells [.v (.int .u64 (qB b 0:Nat)),.v (.int .u64 (qB b 1:Nat)),.v (.int .u64 (qB b 2:Nat)),.v (.int .u64 (qB b 3:Nat))] 53,.cells [.v (.int .u64 0),.v (.int .u64 0),.v (.int .u64 0),.v (.int .u64 0)] 53,.cells [.v (.int .u64 (o0:Nat)),.v (.int .u64 (o1:Nat)),.v (.int .u64 (o2:Nat)),.v (.int .u64 (o3:Nat))] 53]⟩:=fun c4 hc1 hs=>by
  exact zUb o0 o1 o2 o3 c4 a b Q (hq o3 c4 hs ol hc1)
 refine FOk.rnd (qD hm 60 ((rm3 o0 o1 o2 c3 a b 1 _ _).mpr ⟨?_⟩))
 simp only[qF,e]
 refine aI (aI (aI (aI (aI (aI (qE (fun h=>next 1 (by omega) (e1 h)) (fun h=>qE (fun h2=>next 1 (by omega) (e2 h h2)) (fun h2=>next 0 (by omega) (e3 h h2)))))))))
theorem zXd(o0 o1 c2 a b:Nat)(hc:c2≤1)(Q:SV→List HO→Prop)(hq:∀ o2 o3 c3 c4:Nat,qB a 2+18446744073709551616*c3=o2+qB b 2+c2→o2<18446744073709551616→c3≤1→qB a 3+18446744073709551616*c4=o3+qB b 3+c3→o3<18446744073709551616→c4≤1→Q (.agg [.v (.int .u64 (o0:Nat)),.v (.int .u64 (o1:Nat)),.v (.int .u64 (o2:Nat)),.v (.int .u64 (o3:Nat))]) []):FOk Tryz.prog Tryz.f97 Q (.rnd [0,0,1,0,1,1,1] 3::[.blk 0,.at [1,1,1,1]]) ⟨[(2,.p 0 0),(3,.p 1 0),(4,.p 2 0),(5,.p 3 0),(6,.v (.int .u64 (c2:Nat))),(7,.v (.int .i64 2))],[.cells [.v (.int .u64 (qB a 0:Nat)),.v (.int .u64 (qB a 1:Nat)),.v (.int .u64 (qB a 2:Nat)),.v (.int .u64 (qB a 3:Nat))] 53,.cells [.v (.int .u64 (qB b 0:Nat)),.v (.int .u64 (qB b 1:Nat)),.v (.int .u64 (qB b 2:Nat)),.v (.int .u64 (qB b 3:Nat))] 53,.cells [.v (.int .u64 0),.v (.int .u64 0),.v (.int .u64 0),.v (.int .u64 0)] 53,.cells [.v (.int .u64 (o0:Nat)),.v (.int .u64 (o1:Nat)),.v (.int .u64 0),.v (.int .u64 0)] 53]⟩:=by
 obtain⟨o2,ol,e,e1,e2,e3⟩:=mst (qB a 2) (qB b 2) c2 (qO a 2) (qO b 2) hc
 have next:∀ c3:Nat,c3≤1→qB a 2+18446744073709551616*c3=o2+qB b 2+c2→FOk Tryz.prog Tryz.f97 Q (.rnd [0,0,1,0,1,1,1] 2::[.blk 0,.at [1,1,1,1]]) ⟨[(2,.p 0 0),(3,.p 1 0),(4,.p 2 0),(5,.p 3 0),(6,.v (.int .u64 (c3:Nat))),(7,.v (.int .i64 3))],[.cells [.v (.int .u64 (qB a 0:Nat)),.v (.int .u64 (qB a 1:Nat)),.v (.int .u64 (qB a 2:Nat)),.v (.int .u64 (qB a 3:Nat))] 53,.cells [.v (.int .u64 (qB b 0:Nat)),.v (.int .u64 (qB b 1:Nat)),.v (.int .u64 (qB b 2:Nat)),.v (.int .u64 (qB b 3:Nat))] 53,.cells [.v (.int .u64 0),.v (.int .u64 0),.v (.int .u64 0),.v (.int .u64 0)] 53,.cells [.v (.int .u64 (o0:Nat)),.v (.int .u64 (o1:Nat)),.v (.int .u64 (o2:Nat)),.v (.int .u64 0)] 53]⟩:=fun c3 hc1 hs=>by
  refine zWx o0 o1 o2 c3 a b hc1 Q ?_
  intro o3 c4 k3 l3 m3
  exact hq o2 o3 c3 c4 hs ol hc1 k3 l3 m3
 refine FOk.rnd (qD hm 60 ((rm2 o0 o1 c2 a b 2 _ _).mpr ⟨?_⟩))
 simp only[qF,e]
 refine aI (aI (aI (aI (aI (aI (qE (fun h=>next 1 (by omega) (e1 h)) (fun h=>qE (fun h2=>next 1 (by omega) (e2 h h2)) (fun h2=>next 0 (by omega) (e3 h h2)))))))))
theorem zYp(o0 c1 a b:Nat)(hc:c1≤1)(Q:SV→List HO→Prop)(hq:∀ o1 o2 o3 c2 c3 c4:Nat,qB a 1+18446744073709551616*c2=o1+qB b 1+c1→o1<18446744073709551616→c2≤1→qB a 2+18446744073709551616*c3=o2+qB b 2+c2→o2<18446744073709551616→c3≤1→qB a 3+18446744073709551616*c4=o3+qB b 3+c3→o3<18446744073709551616→c4≤1→Q (.agg [.v (.int .u64 (o0:Nat)),.v (.int .u64 (o1:Nat)),.v (.int .u64 (o2:Nat)),.v (.int .u64 (o3:Nat))]) []):FOk Tryz.prog Tryz.f97 Q (.rnd [0,0,1,0,1,1,1] 4::[.blk 0,.at [1,1,1,1]]) ⟨[(2,.p 0 0),(3,.p 1 0),(4,.p 2 0),(5,.p 3 0),(6,.v (.int .u64 (c1:Nat))),(7,.v (.int .i64 1))],[.cells [.v (.int .u64 (qB a 0:Nat)),.v (.int .u64 (qB a 1:Nat)),.v (.int .u64 (qB a 2:Nat)),.v (.int .u64 (qB a 3:Nat))] 53,.cells [.v (.int .u64 (qB b 0:Nat)),.v (.int .u64 (qB b 1:Nat)),.v (.int .u64 (qB b 2:Nat)),.v (.int .u64 (qB b 3:Nat))] 53,.cells [.v (.int .u64 0),.v (.int .u64 0),.v (.int .u64 0),.v (.int .u64 0)] 53,.cells [.v (.int .u64 (o0:Nat)),.v (.int .u64 0),.v (.int .u64 0),.v (.int .u64 0)] 53]⟩:=by
 obtain⟨o1,ol,e,e1,e2,e3⟩:=mst (qB a 1) (qB b 1) c1 (qO a 1) (qO b 1) hc
 have next:∀ c2:Nat,c2≤1→qB a 1+18446744073709551616*c2=o1+qB b 1+c1→FOk Tryz.prog Tryz.f97 Q (.rnd [0,0,1,0,1,1,1] 3::[.blk 0,.at [1,1,1,1]]) ⟨[(2,.p 0 0),(3,.p 1 0),(4,.p 2 0),(5,.p 3 0),(6,.v (.int .u64 (c2:Nat))),(7,.v (.int .i64 2))],[.cells [.v (.int .u64 (qB a 0:Nat)),.v (.int .u64 (qB a 1:Nat)),.v (.int .u64 (qB a 2:Nat)),.v (.int .u64 (qB a 3:Nat))] 53,.cells [.v (.int .u64 (qB b 0:Nat)),.v (.int .u64 (qB b 1:Nat)),.v (.int .u64 (qB b 2:Nat)),.v (.int .u64 (qB b 3:Nat))] 53,.cells [.v (.int .u64 0),.v (.int .u64 0),.v (.int .u64 0),.v (.int .u64 0)] 53,.cells [.v (.int .u64 (o0:Nat)),.v (.int .u64 (o1:Nat)),.v (.int .u64 0),.v (.int .u64 0)] 53]⟩:=fun c2 hc1 hs=>by
  refine zXd o0 o1 c2 a b hc1 Q ?_
  intro o2 o3 c3 c4 k2 l2 m2 k3 l3 m3
  exact hq o1 o2 o3 c2 c3 c4 hs ol hc1 k2 l2 m2 k3 l3 m3
 refine FOk.rnd (qD hm 60 ((rm1 o0 c1 a b 3 _ _).mpr ⟨?_⟩))
 simp only[qF,e]
 refine aI (aI (aI (aI (aI (aI (qE (fun h=>next 1 (by omega) (e1 h)) (fun h=>qE (fun h2=>next 1 (by omega) (e2 h h2)) (fun h2=>next 0 (by omega) (e3 h h2)))))))))
theorem zXb(c0 a b:Nat)(hc:c0≤1)(Q:SV→List HO→Prop)(hq:∀ o0 o1 o2 o3 c1 c2 c3 c4:Nat,qB a 0+18446744073709551616*c1=o0+qB b 0+c0→o0<18446744073709551616→c1≤1→qB a 1+18446744073709551616*c2=o1+qB b 1+c1→o1<18446744073709551616→c2≤1→qB a 2+18446744073709551616*c3=o2+qB b 2+c2→o2<18446744073709551616→c3≤1→qB a 3+18446744073709551616*c4=o3+qB b 3+c3→o3<18446744073709551616→c4≤1→Q (.agg [.v (.int .u64 (o0:Nat)),.v (.int .u64 (o1:Nat)),.v (.int .u64 (o2:Nat)),.v (.int .u64 (o3:Nat))]) []):FOk Tryz.prog Tryz.f97 Q (.rnd [0,0,1,0,1,1,1] 5::[.blk 0,.at [1,1,1,1]]) ⟨[(2,.p 0 0),(3,.p 1 0),(4,.p 2 0),(5,.p 3 0),(6,.v (.int .u64 (c0:Nat))),(7,.v (.int .i64 0))],[.cells [.v (.int .u64 (qB a 0:Nat)),.v (.int .u64 (qB a 1:Nat)),.v (.int .u64 (qB a 2:Nat)),.v (.int .u64 (qB a 3:Nat))] 53,.cells [.v (.int .u64 (qB b 0:Nat)),.v (.int .u64 (qB b 1:Nat)),.v (.int .u64 (qB b 2:Nat)),.v (.int .u64 (qB b 3:Nat))] 53,.cells [.v (.int .u64 0),.v (.int .u64 0),.v (.int .u64 0),.v (.int .u64 0)] 53,.cells [.v (.int .u64 0),.v (.int .u64 0),.v (.int .u64 0),.v (.int .u64 0)] 53]⟩:=by
 obtain⟨o0,ol,e,e1,e2,e3⟩:=mst (qB a 0) (qB b 0) c0 (qO a 0) (qO b 0) hc
 have next:∀ c1:Nat,c1≤1→qB a 0+18446744073709551616*c1=o0+qB b 0+c0→FOk Tryz.prog Tryz.f97 Q (.rnd [0,0,1,0,1,1,1] 4::[.blk 0,.at [1,1,1,1]]) ⟨[(2,.p 0 0),(3,.p 1 0),(4,.p 2 0),(5,.p 3 0),(6,.v (.int .u64 (c1:Nat))),(7,.v (.int .i64 1))],[.cells [.v (.int .u64 (qB a 0:Nat)),.v (.int .u64 (qB a 1:Nat)),.v (.int .u64 (qB a 2:Nat)),.v (.int .u64 (qB a 3:Nat))] 53,.cells [.v (.int .u64 (qB b 0:Nat)),.v (.int .u64 (qB b 1:Nat)),.v (.int .u64 (qB b 2:Nat)),.v (.int .u64 (qB b 3:Nat))] 53,.cells [.v (.int .u64 0),.v (.int .u64 0),.v (.int .u64 0),.v (.int .u64 0)] 53,.cells [.v (.int .u64 (o0:Nat)),.v (.int .u64 0),.v (.int .u64 0),.v (.int .u64 0)] 53]⟩:=fun c1 hc1 hs=>by
  refine zYp o0 c1 a b hc1 Q ?_
  intro o1 o2 o3 c2 c3 c4 k1 l1 m1 k2 l2 m2 k3 l3 m3
  exact hq o0 o1 o2 o3 c1 c2 c3 c4 hs ol hc1 k1 l1 m1 k2 l2 m2 k3 l3 m3
 refine FOk.rnd (qD hm 60 ((rm0 c0 a b 4 _ _).mpr ⟨?_⟩))
 simp only[qF,e]
 refine aI (aI (aI (aI (aI (aI (qE (fun h=>next 1 (by omega) (e1 h)) (fun h=>qE (fun h2=>next 1 (by omega) (e2 h h2)) (fun h2=>next 0 (by omega) (e3 h h2)))))))))
theorem bRm:Tryz.f97.body.isSome=true:=by kernel_rfl
theorem nRm(a b:Nat):Nat.ble [eS a,eS b].length Tryz.f97.ntmps=true:=by kernel_rfl
theorem zSp(a b:Nat)(ha:a<top)(hb:b<top)(Q:SV→List HO→Prop)(hq:Q (eS (yB a b)) []):qI Tryz.prog 97 [eS a,eS b] [] Q:=by
 refine qJ Tryz.func97 bRm ?_ ?_
 ·exact nRm a b
 refine qD hm 60 ((rmS a b _ _).mpr ⟨And.intro (fun _=>by omega) ?_⟩)
 refine FOk.loop 5 (by kernel_rfl) (zXb 0 a b (by omega) Q ?_)
 intro o0 o1 o2 o3 c1 c2 c3 c4 k0 l0 m0 k1 l1 m1 k2 l2 m2 k3 l3 m3
 have hs:=qOv (qB a 0) (qB a 1) (qB a 2) (qB a 3) (qB b 0) (qB b 1) (qB b 2) (qB b 3) c1 c2 c3 c4 o0 o1 o2 o3 k0 k1 k2 k3
 rw[xE a ha,xE b hb] at hs
 obtain⟨f0,f1,f2,f3⟩:=qDc l0 l1 l2 l3
 have hlt:=qYf l0 l1 l2 l3
 have hw:yB a b=nv o0 o1 o2 o3+top*(1-c4):=by
  rw[yB]
  have:c4=0∨c4=1:=by omega
  rcases this with rfl | rfl
  ·rw[Nat.mul_zero] at hs; rw[Nat.sub_zero,Nat.mul_one]; omega
  ·rw[Nat.mul_one] at hs; rw[Nat.sub_self,Nat.mul_zero]; omega
 rw[hw,eS,zW _ _ 0 (by omega),zW _ _ 1 (by omega),zW _ _ 2 (by omega),zW _ _ 3 (by omega),f0,f1,f2,f3] at hq
 exact hq
noncomputable def gRm:List SV→List HO→Option ((SV→List HO→Prop)→Prop)
 | [.agg [.v (.int .u64 a0),.v (.int .u64 a1),.v (.int .u64 a2),.v (.int .u64 a3)],.agg [.v (.int .u64 b0),.v (.int .u64 b1),.v (.int .u64 b2),.v (.int .u64 b3)]],[]=>some fun Q=>c2C [a0,a1,a2,a3] [b0,b1,b2,b3] fun a b=>Q (eS (yB a b)) []
 | _,_=>none
theorem zNu(args:List SV)(h:List HO)(tr:(SV→List HO→Prop)→Prop)(Q:SV→List HO→Prop)(hc:gRm args h=some tr)(ht:tr Q):qI Tryz.prog 97 args h Q:=by
 unfold gRm at hc
 split at hc
 ·rename_i a0 a1 a2 a3 b0 b1 b2 b3
  simp only[sI] at hc
  subst hc
  obtain⟨a,b,e1,e2,ha,hb,hq⟩:=ht.h
  simp only[List.cons.injEq,and_true] at e1 e2
  obtain⟨rfl,rfl,rfl,rfl⟩:=e1
  obtain⟨rfl,rfl,rfl,rfl⟩:=e2
  exact zSp a b ha hb Q hq
 ·cases hc
theorem zUw(o0 o1 o2 o3 c4 a b:Nat)(Q:SV→List HO→Prop)(hq:Q (.agg [.v (.int .u64 (o0:Nat)),.v (.int .u64 (o1:Nat)),.v (.int .u64 (o2:Nat)),.v (.int .u64 (o3:Nat))]) []):FOk Tryz.prog Tryz.f141 Q (.rnd [0,0,1,0,1,1,1] 1::[.blk 0,.at [1,1,1,1]]) ⟨[(2,.p 0 0),(3,.p 1 0),(4,.p 2 0),(5,.p 3 0),(6,.v (.int .u64 (c4:Nat))),(7,.v (.int .i64 4))],[.cells [.v (.int .u64 (qB a 0:Nat)),.v (.int .u64 (qB a 1:Nat)),.v (.int .u64 (qB a 2:Nat)),.v (.int .u64 (qB a 3:Nat))] 53,.cells [.v (.int .u64 (qB b 0:Nat)),.v (.int .u64 (qB b 1:Nat)),.v (.int .u64 (qB b 2:Nat)),.v (.int .u64 (qB b 3:Nat))] 53,.cells [.v (.int .u64 0),.v (.int .u64 0),.v (.int .u64 0),.v (.int .u64 0)] 53,.cells [.v (.int .u64 (o0:Nat)),.v (.int .u64 (o1:Nat)),.v (.int .u64 (o2:Nat)),.v (.int .u64 (o3:Nat))] 53]⟩:=by
 refine FOk.rnd (qD hm 60 ((rp4 o0 o1 o2 o3 c4 a b 0 _ _).mpr ⟨?_⟩))
 exact And.intro (fun _=>by omega) hq
theorem zYn(o0 o1 o2 c3 a b:Nat)(hc:c3≤1)(Q:SV→List HO→Prop)(hq:∀ o3 c4:Nat,qB a 3+qB b 3+c3=o3+18446744073709551616*c4→o3<18446744073709551616→c4≤1→Q (.agg [.v (.int .u64 (o0:Nat)),.v (.int .u64 (o1:Nat)),.v (.int .u64 (o2:Nat)),.v (.int .u64 (o3:Nat))]) []):FOk Tryz.prog Tryz.f141 Q (.rnd [0,0,1,0,1,1,1] 2::[.blk 0,.at [1,1,1,1]]) ⟨[(2,.p 0 0),(3,.p 1 0),(4,.p 2 0),(5,.p 3 0),(6,.v (.int .u64 (c3:Nat))),(7,.v (.int .i64 3))],[.cells [.v (.int .u64 (qB a 0:Nat)),.v (.int .u64 (qB a 1:Nat)),.v (.int .u64 (qB a 2:Nat)),.v (.int .u64 (qB a 3:Nat))] 53,.cells [.v (.int .u64 (qB b 0:Nat)),.v (.int .u64 (qB b 1:Nat)),.v (.int .u64 (qB b 2:Nat)),.v (.int .u64 (qB b 3:Nat))] 53,.cells [.v (.int .u64 0),.v (.int .u64 0),.v (.int .u64 0),.v (.int .u64 0)] 53,.cells [.v (.int .u64 (o0:Nat)),.v (.int .u64 (o1:Nat)),.v (.int .u64 (o2:Nat)),.v (.int .u64 0)] 53]⟩:=by
 obtain⟨o3,ol,e,e1,e2,e3⟩:=pst (qB a 3) (qB b 3) c3 (qO a 3) (qO b 3) hc
 have next:∀ c4:Nat,c4≤1→qB a 3+qB b 3+c3=o3+18446744073709551616*c4→FOk Tryz.prog Tryz.f141 Q (.rnd [0,0,1,0,1,1,1] 1::[.blk 0,.at [1,1,1,1]]) ⟨[(2,.p 0 0),(3,.p 1 0),(4,.p 2 0),(5,.p 3 0),(6,.v (.int .u64 (c4:Nat))),(7,.v (.int .i64 4))],[.cells [.v (.int .u64 (qB a 0:Nat)),.v (.int .u64 (qB a 1:Nat)),.v (.int .u64 (qB a 2:Nat)),.v (.int .u64 (qB a 3:Nat))] 53,.cells [.v (.int .u64 (qB b 0:Nat)),.v (.int .u64 (qB b 1:Nat)),.v (.int .u64 (qB b 2:Nat)),.v (.int .u64 (qB b 3:Nat))] 53,.cells [.v (.int .u64 0),.v (.int .u64 0),.v (.int .u64 0),.v (.int .u64 0)] 53,.cells [.v (.int .u64 (o0:Nat)),.v (.int .u64 (o1:Nat)),.v (.int .u64 (o2:Nat)),.v (.int .u64 (o3:Nat))] 53]⟩:=fun c4 hc1 hs=>by
  exact zUw o0 o1 o2 o3 c4 a b Q (hq o3 c4 hs ol hc1)
 refine FOk.rnd (qD hm 60 ((rp3 o0 o1 o2 c3 a b 1 _ _).mpr ⟨?_⟩))
 simp only[qF,e]
 refine aI (aI (aI (aI (aI (qE (fun h=>next 1 (by omega) (e1 h)) (fun h=>aI (qE (fun h2=>next 1 (by omega) (e2 h h2)) (fun h2=>next 0 (by omega) (e3 h h2)))))))))
theorem zWs(o0 o1 c2 a b:Nat)(hc:c2≤1)(Q:SV→List HO→Prop)(hq:∀ o2 o3 c3 c4:Nat,qB a 2+qB b 2+c2=o2+18446744073709551616*c3→o2<18446744073709551616→c3≤1→qB a 3+qB b 3+c3=o3+18446744073709551616*c4→o3<18446744073709551616→c4≤1→Q (.agg [.v (.int .u64 (o0:Nat)),.v (.int .u64 (o1:Nat)),.v (.int .u64 (o2:Nat)),.v (.int .u64 (o3:Nat))]) []):FOk Tryz.prog Tryz.f141 Q (.rnd [0,0,1,0,1,1,1] 3::[.blk 0,.at [1,1,1,1]]) ⟨[(2,.p 0 0),(3,.p 1 0),(4,.p 2 0),(5,.p 3 0),(6,.v (.int .u64 (c2:Nat))),(7,.v (.int .i64 2))],[.cells [.v (.int .u64 (qB a 0:Nat)),.v (.int .u64 (qB a 1:Nat)),.v (.int .u64 (qB a 2:Nat)),.v (.int .u64 (qB a 3:Nat))] 53,.cells [.v (.int .u64 (qB b 0:Nat)),.v (.int .u64 (qB b 1:Nat)),.v (.int .u64 (qB b 2:Nat)),.v (.int .u64 (qB b 3:Nat))] 53,.cells [.v (.int .u64 0),.v (.int .u64 0),.v (.int .u64 0),.v (.int .u64 0)] 53,.cells [.v (.int .u64 (o0:Nat)),.v (.int .u64 (o1:Nat)),.v (.int .u64 0),.v (.int .u64 0)] 53]⟩:=by
 obtain⟨o2,ol,e,e1,e2,e3⟩:=pst (qB a 2) (qB b 2) c2 (qO a 2) (qO b 2) hc
 have next:∀ c3:Nat,c3≤1→qB a 2+qB b 2+c2=o2+18446744073709551616*c3→FOk Tryz.prog Tryz.f141 Q (.rnd [0,0,1,0,1,1,1] 2::[.blk 0,.at [1,1,1,1]]) ⟨[(2,.p 0 0),(3,.p 1 0),(4,.p 2 0),(5,.p 3 0),(6,.v (.int .u64 (c3:Nat))),(7,.v (.int .i64 3))],[.cells [.v (.int .u64 (qB a 0:Nat)),.v (.int .u64 (qB a 1:Nat)),.v (.int .u64 (qB a 2:Nat)),.v (.int .u64 (qB a 3:Nat))] 53,.cells [.v (.int .u64 (qB b 0:Nat)),.v (.int .u64 (qB b 1:Nat)),.v (.int .u64 (qB b 2:Nat)),.v (.int .u64 (qB b 3:Nat))] 53,.cells [.v (.int .u64 0),.v (.int .u64 0),.v (.int .u64 0),.v (.int .u64 0)] 53,.cells [.v (.int .u64 (o0:Nat)),.v (.int .u64 (o1:Nat)),.v (.int .u64 (o2:Nat)),.v (.int .u64 0)] 53]⟩:=fun c3 hc1 hs=>by
  refine zYn o0 o1 o2 c3 a b hc1 Q ?_
  intro o3 c4 k3 l3 m3
  exact hq o2 o3 c3 c4 hs ol hc1 k3 l3 m3
 refine FOk.rnd (qD hm 60 ((rp2 o0 o1 c2 a b 2 _ _).mpr ⟨?_⟩))
 simp only[qF,e]
 refine aI (aI (aI (aI (aI (qE (fun h=>next 1 (by omega) (e1 h)) (fun h=>aI (qE (fun h2=>next 1 (by omega) (e2 h h2)) (fun h2=>next 0 (by omega) (e3 h h2)))))))))
theorem zUl(o0 c1 a b:Nat)(hc:c1≤1)(Q:SV→List HO→Prop)(hq:∀ o1 o2 o3 c2 c3 c4:Nat,qB a 1+qB b 1+c1=o1+18446744073709551616*c2→o1<18446744073709551616→c2≤1→qB a 2+qB b 2+c2=o2+18446744073709551616*c3→o2<18446744073709551616→c3≤1→qB a 3+qB b 3+c3=o3+18446744073709551616*c4→o3<18446744073709551616→c4≤1→Q (.agg [.v (.int .u64 (o0:Nat)),.v (.int .u64 (o1:Nat)),.v (.int .u64 (o2:Nat)),.v (.int .u64 (o3:Nat))]) []):FOk Tryz.prog Tryz.f141 Q (.rnd [0,0,1,0,1,1,1] 4::[.blk 0,.at [1,1,1,1]]) ⟨[(2,.p 0 0),(3,.p 1 0),(4,.p 2 0),(5,.p 3 0),(6,.v (.int .u64 (c1:Nat))),(7,.v (.int .i64 1))],[.cells [.v (.int .u64 (qB a 0:Nat)),.v (.int .u64 (qB a 1:Nat)),.v (.int .u64 (qB a 2:Nat)),.v (.int .u64 (qB a 3:Nat))] 53,.cells [.v (.int .u64 (qB b 0:Nat)),.v (.int .u64 (qB b 1:Nat)),.v (.int .u64 (qB b 2:Nat)),.v (.int .u64 (qB b 3:Nat))] 53,.cells [.v (.int .u64 0),.v (.int .u64 0),.v (.int .u64 0),.v (.int .u64 0)] 53,.cells [.v (.int .u64 (o0:Nat)),.v (.int .u64 0),.v (.int .u64 0),.v (.int .u64 0)] 53]⟩:=by
 obtain⟨o1,ol,e,e1,e2,e3⟩:=pst (qB a 1) (qB b 1) c1 (qO a 1) (qO b 1) hc
 have next:∀ c2:Nat,c2≤1→qB a 1+qB b 1+c1=o1+18446744073709551616*c2→FOk Tryz.prog Tryz.f141 Q (.rnd [0,0,1,0,1,1,1] 3::[.blk 0,.at [1,1,1,1]]) ⟨[(2,.p 0 0),(3,.p 1 0),(4,.p 2 0),(5,.p 3 0),(6,.v (.int .u64 (c2:Nat))),(7,.v (.int .i64 2))],[.cells [.v (.int .u64 (qB a 0:Nat)),.v (.int .u64 (qB a 1:Nat)),.v (.int .u64 (qB a 2:Nat)),.v (.int .u64 (qB a 3:Nat))] 53,.cells [.v (.int .u64 (qB b 0:Nat)),.v (.int .u64 (qB b 1:Nat)),.v (.int .u64 (qB b 2:Nat)),.v (.int .u64 (qB b 3:Nat))] 53,.cells [.v (.int .u64 0),.v (.int .u64 0),.v (.int .u64 0),.v (.int .u64 0)] 53,.cells [.v (.int .u64 (o0:Nat)),.v (.int .u64 (o1:Nat)),.v (.int .u64 0),.v (.int .u64 0)] 53]⟩:=fun c2 hc1 hs=>by
  refine zWs o0 o1 c2 a b hc1 Q ?_
  intro o2 o3 c3 c4 k2 l2 m2 k3 l3 m3
  exact hq o1 o2 o3 c2 c3 c4 hs ol hc1 k2 l2 m2 k3 l3 m3
 refine FOk.rnd (qD hm 60 ((rp1 o0 c1 a b 3 _ _).mpr ⟨?_⟩))
 simp only[qF,e]
 refine aI (aI (aI (aI (aI (qE (fun h=>next 1 (by omega) (e1 h)) (fun h=>aI (qE (fun h2=>next 1 (by omega) (e2 h h2)) (fun h2=>next 0 (by omega) (e3 h h2)))))))))
theorem zUi(c0 a b:Nat)(hc:c0≤1)(Q:SV→List HO→Prop)(hq:∀ o0 o1 o2 o3 c1 c2 c3 c4:Nat,qB a 0+qB b 0+c0=o0+18446744073709551616*c1→o0<18446744073709551616→c1≤1→qB a 1+qB b 1+c1=o1+18446744073709551616*c2→o1<18446744073709551616→c2≤1→qB a 2+qB b 2+c2=o2+18446744073709551616*c3→o2<18446744073709551616→c3≤1→qB a 3+qB b 3+c3=o3+18446744073709551616*c4→o3<18446744073709551616→c4≤1→Q (.agg [.v (.int .u64 (o0:Nat)),.v (.int .u64 (o1:Nat)),.v (.int .u64 (o2:Nat)),.v (.int .u64 (o3:Nat))]) []):FOk Tryz.prog Tryz.f141 Q (.rnd [0,0,1,0,1,1,1] 5::[.blk 0,.at [1,1,1,1]]) ⟨[(2,.p 0 0),(3,.p 1 0),(4,.p 2 0),(5,.p 3 0),(6,.v (.int .u64 (c0:Nat))),(7,.v (.int .i64 0))],[.cells [.v (.int .u64 (qB a 0:Nat)),.v (.int .u64 (qB a 1:Nat)),.v (.int .u64 (qB a 2:Nat)),.v (.int .u64 (qB a 3:Nat))] 53,.cells [.v (.int .u64 (qB b 0:Nat)),.v (.int .u64 (qB b 1:Nat)),.v (.int .u64 (qB b 2:Nat)),.v (.int .u64 (qB b 3:Nat))] 53,.cells [.v (.int .u64 0),.v (.int .u64 0),.v (.int .u64 0),.v (.int .u64 0)] 53,.cells [.v (.int .u64 0),.v (.int .u64 0),.v (.int .u64 0),.v (.int .u64 0)] 53]⟩:=by
 obtain⟨o0,ol,e,e1,e2,e3⟩:=pst (qB a 0) (qB b 0) c0 (qO a 0) (qO b 0) hc
 have next:∀ c1:Nat,c1≤1→qB a 0+qB b 0+c0=o0+18446744073709551616*c1→FOk Tryz.prog Tryz.f141 Q (.rnd [0,0,1,0,1,1,1] 4::[.blk 0,.at [1,1,1,1]]) ⟨[(2,.p 0 0),(3,.p 1 0),(4,.p 2 0),(5,.p 3 0),(6,.v (.int .u64 (c1:Nat))),(7,.v (.int .i64 1))],[.cells [.v (.int .u64 (qB a 0:Nat)),.v (.int .u64 (qB a 1:Nat)),.v (.int .u64 (qB a 2:Nat)),.v (.int .u64 (qB a 3:Nat))] 53,.cells [.v (.int .u64 (qB b 0:Nat)),.v (.int .u64 (qB b 1:Nat)),.v (.int .u64 (qB b 2:Nat)),.v (.int .u64 (qB b 3:Nat))] 53,.cells [.v (.int .u64 0),.v (.int .u64 0),.v (.int .u64 0),.v (.int .u64 0)] 53,.cells [.v (.int .u64 (o0:Nat)),.v (.int .u64 0),.v (.int .u64 0),.v (.int .u64 0)] 53]⟩:=fun c1 hc1 hs=>by
  refine zUl o0 c1 a b hc1 Q ?_
  intro o1 o2 o3 c2 c3 c4 k1 l1 m1 k2 l2 m2 k3 l3 m3
  exact hq o0 o1 o2 o3 c1 c2 c3 c4 hs ol hc1 k1 l1 m1 k2 l2 m2 k3 l3 m3
 refine FOk.rnd (qD hm 60 ((rp0 c0 a b 4 _ _).mpr ⟨?_⟩))
 simp only[qF,e]
 refine aI (aI (aI (aI (aI (qE (fun h=>next 1 (by omega) (e1 h)) (fun h=>aI (qE (fun h2=>next 1 (by omega) (e2 h h2)) (fun h2=>next 0 (by omega) (e3 h h2)))))))))
theorem bRp:Tryz.f141.body.isSome=true:=by kernel_rfl
theorem nRp(a b:Nat):Nat.ble [eS a,eS b].length Tryz.f141.ntmps=true:=by kernel_rfl
theorem zQo(a b:Nat)(ha:a<top)(hb:b<top)(Q:SV→List HO→Prop)(hq:Q (eS (zP a b)) []):qI Tryz.prog 141 [eS a,eS b] [] Q:=by
 refine qJ Tryz.func141 bRp ?_ ?_
 ·exact nRp a b
 refine qD hm 60 ((rpS a b _ _).mpr ⟨And.intro (fun _=>by omega) ?_⟩)
 refine FOk.loop 5 (by kernel_rfl) (zUi 0 a b (by omega) Q ?_)
 intro o0 o1 o2 o3 c1 c2 c3 c4 k0 l0 m0 k1 l1 m1 k2 l2 m2 k3 l3 m3
 have hs:=qPl (qB a 0) (qB a 1) (qB a 2) (qB a 3) (qB b 0) (qB b 1) (qB b 2) (qB b 3) c1 c2 c3 c4 o0 o1 o2 o3 k0 k1 k2 k3
 rw[xE a ha,xE b hb] at hs
 obtain⟨f0,f1,f2,f3⟩:=qDc l0 l1 l2 l3
 rw[zP,hs,eS,zW _ _ 0 (by omega),zW _ _ 1 (by omega),zW _ _ 2 (by omega),zW _ _ 3 (by omega),f0,f1,f2,f3] at hq
 exact hq
noncomputable def gRp:List SV→List HO→Option ((SV→List HO→Prop)→Prop)
 | [.agg [.v (.int .u64 a0),.v (.int .u64 a1),.v (.int .u64 a2),.v (.int .u64 a3)],.agg [.v (.int .u64 b0),.v (.int .u64 b1),.v (.int .u64 b2),.v (.int .u64 b3)]],[]=>some fun Q=>c2C [a0,a1,a2,a3] [b0,b1,b2,b3] fun a b=>Q (eS (zP a b)) []
 | _,_=>none
theorem zOg(args:List SV)(h:List HO)(tr:(SV→List HO→Prop)→Prop)(Q:SV→List HO→Prop)(hc:gRp args h=some tr)(ht:tr Q):qI Tryz.prog 141 args h Q:=by
 unfold gRp at hc
 split at hc
 ·rename_i a0 a1 a2 a3 b0 b1 b2 b3
  simp only[sI] at hc
  subst hc
  obtain⟨a,b,e1,e2,ha,hb,hq⟩:=ht.h
  simp only[List.cons.injEq,and_true] at e1 e2
  obtain⟨rfl,rfl,rfl,rfl⟩:=e1
  obtain⟨rfl,rfl,rfl,rfl⟩:=e2
  exact zQo a b ha hb Q hq
 ·cases hc
noncomputable def K38:Con Tryz.prog:=((K31.add 96 gRb zPg).add 97 gRm zNu).add 141 gRp zOg
end Go.Proofs.YtlmjdcbhpffanaaGreat
/- The document's moduli. -/
namespace Go.Pl
open Go.Sx
def zV(s:Int):Nat:=if s=0 then 16513537 else 16521217
theorem qRl(s:Int):16513537≤zV s∧zV s≤16521217:=by unfold zV; split <;> omega
theorem qKd{s:Int}(h:s=0∨s=1):zV s=fP s:=by rcases h with rfl | rfl <;> rfl
end Go.Pl
namespace Go.Proofs.YtlmjdcbhpffanaaGreat
open Go.Sx Go.Pl
set_option linter.unusedVariables false
set_option maxRecDepth 100000
theorem liS(s:Int)(K:List It→St→Prop)(R:SV→List HO→Prop):W (xwp Tryz.prog X K38 [] 60 (qK Tryz.f94 [] []) [] [.at []] ⟨qR 0 [.v (.int .i64 s)],[]⟩ K R)=W (bif s==(0:Int) then R (.v (qC 16513537)) [] else R (.v (qC 16521217)) []):=by kernel_rfl
theorem moS(s:Int)(K:List It→St→Prop)(R:SV→List HO→Prop):W (xwp Tryz.prog X K38 [] 60 (qK Tryz.f95 [] []) [] [.at []] ⟨qR 0 [.v (.int .i64 s)],[]⟩ K R)=W (bif s==(0:Int) then(∀ M:Mem,4≤4)∧R (.tup [.agg [.v (qC 16513537),.v (qC 0),.v (qC 0),.v (qC 0)],.v (qA 0)]) [] else bif s==(1:Int) then(∀ M:Mem,4≤4)∧R (.tup [.agg [.v (qC 16521217),.v (qC 0),.v (qC 0),.v (qC 0)],.v (qA 0)]) [] else bif s==(2:Int) then(∀ M:Mem,4≤4)∧R (.tup [.agg [.v (qC 11037532056220336129),.v (qC 2469829653914515739),.v (qC 0),.v (qC 4611686018427387904)],.v (qA 0)]) [] else bif s==(3:Int) then(∀ M:Mem,4≤4)∧R (.tup [.agg [.v (qC 10108024940646105089),.v (qC 2469829653919213789),.v (qC 0),.v (qC 4611686018427387904)],.v (qA 0)]) [] else(∀ M:Mem,4≤4)∧R (.tup [.agg [.v (qC 0),.v (qC 0),.v (qC 0),.v (qC 0)],.v (qA 20)]) []):=by kernel_rfl
theorem bLi:Tryz.f94.body.isSome=true:=by kernel_rfl
theorem nLi(s:Int):Nat.ble [SV.v (.int .i64 s)].length Tryz.f94.ntmps=true:=by kernel_rfl
theorem zSz(s:Int)(Q:SV→List HO→Prop)(hq:Q (.v (.int .u64 (zV s:Nat))) []):qI Tryz.prog 94 [.v (.int .i64 s)] [] Q:=by
 refine qJ Tryz.func94 bLi ?_ ?_
 ·exact nLi s
 refine qD hm 60 ((liS s _ _).mpr ⟨?_⟩)
 rw[qT]
 refine qE (fun h=>?_) (fun h=>?_)
 ·rw[zV,if_pos h] at hq; exact hq
 ·rw[zV,if_neg h] at hq; exact hq
noncomputable def gLi:List SV→List HO→Option ((SV→List HO→Prop)→Prop)
 | [.v (.int .i64 s)],[]=>some fun Q=>Q (.v (.int .u64 (zV s:Nat))) []
 | _,_=>none
theorem zLp(args:List SV)(h:List HO)(tr:(SV→List HO→Prop)→Prop)(Q:SV→List HO→Prop)(hc:gLi args h=some tr)(ht:tr Q):qI Tryz.prog 94 args h Q:=by
 unfold gLi at hc
 split at hc
 ·rename_i s
  simp only[sI] at hc
  subst hc
  exact zSz s Q ht
 ·cases hc
theorem bMo:Tryz.f95.body.isSome=true:=by kernel_rfl
theorem nMo(s:Int):Nat.ble [SV.v (.int .i64 s)].length Tryz.f95.ntmps=true:=by kernel_rfl
theorem zTd(s:Int)(Q:SV→List HO→Prop)(hq:Q (.tup [eS (fP s),.v (.int .i64 (fE s))]) []):qI Tryz.prog 95 [.v (.int .i64 s)] [] Q:=by
 refine qJ Tryz.func95 bMo ?_ ?_
 ·exact nMo s
 refine qD hm 60 ((moS s _ _).mpr ⟨?_⟩)
 simp only[qT]
 refine qE (fun h0=>?_) (fun h0=>?_)
 ·subst h0
  refine And.intro (fun _=>by omega) ?_
  have e:fE 0=0:=rfl
  rw[show fP 0=16513537 from rfl,e,eS,(qU 16513537 (by omega)).1,(qU 16513537 (by omega)).2.1,(qU 16513537 (by omega)).2.2.1,(qU 16513537 (by omega)).2.2.2] at hq
  exact hq
 refine qE (fun h1=>?_) (fun h1=>?_)
 ·subst h1
  refine And.intro (fun _=>by omega) ?_
  have e:fE 1=0:=rfl
  rw[show fP 1=16521217 from rfl,e,eS,(qU 16521217 (by omega)).1,(qU 16521217 (by omega)).2.1,(qU 16521217 (by omega)).2.2.1,(qU 16521217 (by omega)).2.2.2] at hq
  exact hq
 refine qE (fun h2=>?_) (fun h2=>?_)
 ·subst h2
  refine And.intro (fun _=>by omega) ?_
  have e:fE 2=0:=rfl
  rw[show fP 2=28948022309329048855892746252171976963363056481941560715954676764349967630337 from rfl,e,eS,jZ.1,jZ.2.1,jZ.2.2.1,jZ.2.2.2] at hq
  exact hq
 refine qE (fun h3=>?_) (fun h3=>?_)
 ·subst h3
  refine And.intro (fun _=>by omega) ?_
  have e:fE 3=0:=rfl
  rw[show fP 3=28948022309329048855892746252171976963363056481941647379679742748393362948097 from rfl,e,eS,yD.1,yD.2.1,yD.2.2.1,yD.2.2.2] at hq
  exact hq
 refine And.intro (fun _=>by omega) ?_
 rw[fE,if_pos (qMl h0 h1 h2 h3),qMl h0 h1 h2 h3,xM] at hq
 exact hq
noncomputable def gMo:List SV→List HO→Option ((SV→List HO→Prop)→Prop)
 | [.v (.int .i64 s)],[]=>some fun Q=>Q (.tup [eS (fP s),.v (.int .i64 (fE s))]) []
 | _,_=>none
theorem zMd(args:List SV)(h:List HO)(tr:(SV→List HO→Prop)→Prop)(Q:SV→List HO→Prop)(hc:gMo args h=some tr)(ht:tr Q):qI Tryz.prog 95 args h Q:=by
 unfold gMo at hc
 split at hc
 ·rename_i s
  simp only[sI] at hc
  subst hc
  exact zTd s Q ht
 ·cases hc
noncomputable def K39:Con Tryz.prog:=(K38.add 94 gLi zLp).add 95 gMo zMd
end Go.Proofs.YtlmjdcbhpffanaaGreat
/- The document's remainder. -/
namespace Go.Pl
open Go.Sx
noncomputable def fO(s:Int)(a:Nat):Nat:=if fP s=0 then 0 else fR (fP s) a
theorem ofH(p r x:Nat)(hp:p≤16521217)(hr:r<p)(hx:x<4294967296):Int.tmod (IntKind.wrap IntKind.u64 (IntKind.wrap IntKind.u64 ((r:Int)*(4294967296:Int))+(x:Int))) (p:Int)=((r*4294967296+x)%p:Nat):=by
 rw[show(r:Int)*(4294967296:Int)=((r*4294967296:Nat):Int) by omega,wT _ (by omega),zAc,wT _ (by omega)]
 rfl
theorem of0(p x:Nat)(hx:x<4294967296):Int.tmod (IntKind.wrap IntKind.u64 ((0:Int)+(x:Int))) (p:Int)=(x%p:Nat):=by
 rw[show(0:Int)+(x:Int)=(x:Int) by omega,wT _ (by omega)]
 rfl
theorem zFh(p x y:Nat):(x%p*4294967296+y)%p=(x*4294967296+y)%p:=by
 rw[Nat.add_mod,Nat.mul_mod,Nat.mod_mod,← Nat.mul_mod,← Nat.add_mod]
theorem zPt(p a:Nat)(hp:p≤16521217)(h0:0<p)(ha:a<top):Int.tmod (IntKind.wrap IntKind.u64 (IntKind.wrap IntKind.u64 (Int.tmod (IntKind.wrap IntKind.u64 (IntKind.wrap IntKind.u64 (Int.tmod (IntKind.wrap IntKind.u64 (IntKind.wrap IntKind.u64 (Int.tmod (IntKind.wrap IntKind.u64 (IntKind.wrap IntKind.u64 (Int.tmod (IntKind.wrap IntKind.u64 (IntKind.wrap IntKind.u64 (Int.tmod (IntKind.wrap IntKind.u64 (IntKind.wrap IntKind.u64 (Int.tmod (IntKind.wrap IntKind.u64 (IntKind.wrap IntKind.u64 (Int.tmod (IntKind.wrap IntKind.u64 ((0:Int)+Int.fdiv (↑(qB a 3):Int) (4294967296:Int))) (↑p:Int)*(4294967296:Int))+IntKind.wrap IntKind.u64 (↑(qB a 3%18446744073709551616&&&4294967295):Int))) (↑p:Int)*(4294967296:Int))+Int.fdiv (↑(qB a 2):Int) (4294967296:Int))) (↑p:Int)*(4294967296:Int))+IntKind.wrap IntKind.u64 (↑(qB a 2%18446744073709551616&&&4294967295):Int))) (↑p:Int)*(4294967296:Int))+Int.fdiv (↑(qB a 1):Int) (4294967296:Int))) (↑p:Int)*(4294967296:Int))+IntKind.wrap IntKind.u64 (↑(qB a 1%18446744073709551616&&&4294967295):Int))) (↑p:Int)*(4294967296:Int))+Int.fdiv (↑(qB a 0):Int) (4294967296:Int))) (↑p:Int)*(4294967296:Int))+IntKind.wrap IntKind.u64 (↑(qB a 0%18446744073709551616&&&4294967295):Int))) (↑p:Int)=(a%p:Nat):=by
 have l0:=qO a 0
 have l1:=qO a 1
 have l2:=qO a 2
 have l3:=qO a 3
 have hn:=xE a ha
 rw[qMv,qMv,qMv,qMv,qOm _ l0,qOm _ l1,qOm _ l2,qOm _ l3,of0,ofH,ofH,ofH,ofH,ofH,ofH,ofH]
 ·simp only[zFh]
  congr 2
  simp only[nv] at hn
  generalize qB a 0=x0 at *
  generalize qB a 1=x1 at *
  generalize qB a 2=x2 at *
  generalize qB a 3=x3 at *
  omega
 all_goals first
  | exact Nat.mod_lt _ h0
  | omega
end Go.Pl
namespace Go.Proofs.YtlmjdcbhpffanaaGreat
open Go.Sx Go.Pl
set_option linter.unusedVariables false
set_option maxRecDepth 100000
theorem roS(s:Int)(a:Nat)(K:List It→St→Prop)(R:SV→List HO→Prop):W (xwp Tryz.prog X K39 [] 60 (qK Tryz.f65 [([0,1,0,1,1,0,1,0,1],5)] [⟨[0,0,1,1,1,1],[3,4,8],[]⟩]) [] [.at []] ⟨qR 0 [.v (.int .i64 s),eS a],[]⟩ K R)=W (bif s==(0:Int) then(∀ M:Mem,¬(32:Int)<(0:Int))∧(∀ M:Mem,(0:Int)≤(3:Int)∧(3:Int)<(4:Int))∧(∀ M:Mem,¬(32:Int)<(0:Int))∧(∀ M:Mem,¬(↑(zV s):Int)=(0:Int))∧(∀ M:Mem,¬(32:Int)<(0:Int))∧(∀ M:Mem,(0:Int)≤(3:Int)∧(3:Int)<(4:Int))∧(∀ M:Mem,¬(↑(zV s):Int)=(0:Int))∧(∀ M:Mem,¬(32:Int)<(0:Int))∧(∀ M:Mem,(0:Int)≤(2:Int)∧(2:Int)<(4:Int))∧(∀ M:Mem,¬(32:Int)<(0:Int))∧(∀ M:Mem,¬(↑(zV s):Int)=(0:Int))∧(∀ M:Mem,¬(32:Int)<(0:Int))∧(∀ M:Mem,(0:Int)≤(2:Int)∧(2:Int)<(4:Int))∧(∀ M:Mem,¬(↑(zV s):Int)=(0:Int))∧(∀ M:Mem,¬(32:Int)<(0:Int))∧(∀ M:Mem,(0:Int)≤(1:Int)∧(1:Int)<(4:Int))∧(∀ M:Mem,¬(32:Int)<(0:Int))∧(∀ M:Mem,¬(↑(zV s):Int)=(0:Int))∧(∀ M:Mem,¬(32:Int)<(0:Int))∧(∀ M:Mem,(0:Int)≤(1:Int)∧(1:Int)<(4:Int))∧(∀ M:Mem,¬(↑(zV s):Int)=(0:Int))∧(∀ M:Mem,¬(32:Int)<(0:Int))∧(∀ M:Mem,(0:Int)≤(0:Int)∧(0:Int)<(4:Int))∧(∀ M:Mem,¬(32:Int)<(0:Int))∧(∀ M:Mem,¬(↑(zV s):Int)=(0:Int))∧(∀ M:Mem,¬(32:Int)<(0:Int))∧(∀ M:Mem,(0:Int)≤(0:Int)∧(0:Int)<(4:Int))∧(∀ M:Mem,¬(↑(zV s):Int)=(0:Int))∧(∀ M:Mem,0+4≤4)∧R (.agg [.v (qC (Int.tmod (IntKind.wrap IntKind.u64 (IntKind.wrap IntKind.u64 (Int.tmod (IntKind.wrap IntKind.u64 (IntKind.wrap IntKind.u64 (Int.tmod (IntKind.wrap IntKind.u64 (IntKind.wrap IntKind.u64 (Int.tmod (IntKind.wrap IntKind.u64 (IntKind.wrap IntKind.u64 (Int.tmod (IntKind.wrap IntKind.u64 (IntKind.wrap IntKind.u64 (Int.tmod (IntKind.wrap IntKind.u64 (IntKind.wrap IntKind.u64 (Int.tmod (IntKind.wrap IntKind.u64 (IntKind.wrap IntKind.u64 (Int.tmod (IntKind.wrap IntKind.u64 ((0:Int)+Int.fdiv (↑(qB a 3):Int) (4294967296:Int))) (↑(zV s):Int)*(4294967296:Int))+IntKind.wrap IntKind.u64 (↑(qB a 3%18446744073709551616&&&4294967295):Int))) (↑(zV s):Int)*(4294967296:Int))+Int.fdiv (↑(qB a 2):Int) (4294967296:Int))) (↑(zV s):Int)*(4294967296:Int))+IntKind.wrap IntKind.u64 (↑(qB a 2%18446744073709551616&&&4294967295):Int))) (↑(zV s):Int)*(4294967296:Int))+Int.fdiv (↑(qB a 1):Int) (4294967296:Int))) (↑(zV s):Int)*(4294967296:Int))+IntKind.wrap IntKind.u64 (↑(qB a 1%18446744073709551616&&&4294967295):Int))) (↑(zV s):Int)*(4294967296:Int))+Int.fdiv (↑(qB a 0):Int) (4294967296:Int))) (↑(zV s):Int)*(4294967296:Int))+IntKind.wrap IntKind.u64 (↑(qB a 0%18446744073709551616&&&4294967295):Int))) (↑(zV s):Int))),.v (qC 0),.v (qC 0),.v (qC 0)]) [] else bif s==(1:Int) then(∀ M:Mem,¬(32:Int)<(0:Int))∧(∀ M:Mem,(0:Int)≤(3:Int)∧(3:Int)<(4:Int))∧(∀ M:Mem,¬(32:Int)<(0:Int))∧(∀ M:Mem,¬(↑(zV s):Int)=(0:Int))∧(∀ M:Mem,¬(32:Int)<(0:Int))∧(∀ M:Mem,(0:Int)≤(3:Int)∧(3:Int)<(4:Int))∧(∀ M:Mem,¬(↑(zV s):Int)=(0:Int))∧(∀ M:Mem,¬(32:Int)<(0:Int))∧(∀ M:Mem,(0:Int)≤(2:Int)∧(2:Int)<(4:Int))∧(∀ M:Mem,¬(32:Int)<(0:Int))∧(∀ M:Mem,¬(↑(zV s):Int)=(0:Int))∧(∀ M:Mem,¬(32:Int)<(0:Int))∧(∀ M:Mem,(0:Int)≤(2:Int)∧(2:Int)<(4:Int))∧(∀ M:Mem,¬(↑(zV s):Int)=(0:Int))∧(∀ M:Mem,¬(32:Int)<(0:Int))∧(∀ M:Mem,(0:Int)≤(1:Int)∧(1:Int)<(4:Int))∧(∀ M:Mem,¬(32:Int)<(0:Int))∧(∀ M:Mem,¬(↑(zV s):Int)=(0:Int))∧(∀ M:Mem,¬(32:Int)<(0:Int))∧(∀ M:Mem,(0:Int)≤(1:Int)∧(1:Int)<(4:Int))∧(∀ M:Mem,¬(↑(zV s):Int)=(0:Int))∧(∀ M:Mem,¬(32:Int)<(0:Int))∧(∀ M:Mem,(0:Int)≤(0:Int)∧(0:Int)<(4:Int))∧(∀ M:Mem,¬(32:Int)<(0:Int))∧(∀ M:Mem,¬(↑(zV s):Int)=(0:Int))∧(∀ M:Mem,¬(32:Int)<(0:Int))∧(∀ M:Mem,(0:Int)≤(0:Int)∧(0:Int)<(4:Int))∧(∀ M:Mem,¬(↑(zV s):Int)=(0:Int))∧(∀ M:Mem,0+4≤4)∧R (.agg [.v (qC (Int.tmod (IntKind.wrap IntKind.u64 (IntKind.wrap IntKind.u64 (Int.tmod (IntKind.wrap IntKind.u64 (IntKind.wrap IntKind.u64 (Int.tmod (IntKind.wrap IntKind.u64 (IntKind.wrap IntKind.u64 (Int.tmod (IntKind.wrap IntKind.u64 (IntKind.wrap IntKind.u64 (Int.tmod (IntKind.wrap IntKind.u64 (IntKind.wrap IntKind.u64 (Int.tmod (IntKind.wrap IntKind.u64 (IntKind.wrap IntKind.u64 (Int.tmod (IntKind.wrap IntKind.u64 (IntKind.wrap IntKind.u64 (Int.tmod (IntKind.wrap IntKind.u64 ((0:Int)+Int.fdiv (↑(qB a 3):Int) (4294967296:Int))) (↑(zV s):Int)*(4294967296:Int))+IntKind.wrap IntKind.u64 (↑(qB a 3%18446744073709551616&&&4294967295):Int))) (↑(zV s):Int)*(4294967296:Int))+Int.fdiv (↑(qB a 2):Int) (4294967296:Int))) (↑(zV s):Int)*(4294967296:Int))+IntKind.wrap IntKind.u64 (↑(qB a 2%18446744073709551616&&&4294967295):Int))) (↑(zV s):Int)*(4294967296:Int))+Int.fdiv (↑(qB a 1):Int) (4294967296:Int))) (↑(zV s):Int)*(4294967296:Int))+IntKind.wrap IntKind.u64 (↑(qB a 1%18446744073709551616&&&4294967295):Int))) (↑(zV s):Int)*(4294967296:Int))+Int.fdiv (↑(qB a 0):Int) (4294967296:Int))) (↑(zV s):Int)*(4294967296:Int))+IntKind.wrap IntKind.u64 (↑(qB a 0%18446744073709551616&&&4294967295):Int))) (↑(zV s):Int))),.v (qC 0),.v (qC 0),.v (qC 0)]) [] else(∀ M:Mem,0+4≤4)∧bif !fE s==(0:Int) then(∀ M:Mem,4≤4)∧R (.agg [.v (qC 0),.v (qC 0),.v (qC 0),.v (qC 0)]) [] else K [.at [0,0,1,1,1,1],.blk 2,.at [1,1,1,1,1]] (St.mk [(3,.p 0 0),(4,.p 1 0),(8,.p 2 0)] [.cells [.v (qC (↑(qB a 0):Int)),.v (qC (↑(qB a 1):Int)),.v (qC (↑(qB a 2):Int)),.v (qC (↑(qB a 3):Int))] 53,.cells [.v (qC 0),.v (qC 0),.v (qC 0),.v (qC 0)] 53,.cells [.v (qC (↑(qB (fP s) 0):Int)),.v (qC (↑(qB (fP s) 1):Int)),.v (qC (↑(qB (fP s) 2):Int)),.v (qC (↑(qB (fP s) 3):Int))] 53])):=by kernel_rfl
theorem roL(a P M:Nat)(K:List It→St→Prop)(R:SV→List HO→Prop):W (xwp Tryz.prog X K39 [] 60 (qK Tryz.f65 [] [⟨[0,0,1,1,1,1],[3,4,8],[]⟩]) [] (.at [0,0,0,1,1,1,1]::.rnd [0,0,0,1,1,1,1] M::[.blk 2,.at [1,1,1,1,1]]) ⟨[(3,.p 0 0),(4,.p 1 0),(8,.p 2 0)],[.cells [.v (.int .u64 (qB a 0:Nat)),.v (.int .u64 (qB a 1:Nat)),.v (.int .u64 (qB a 2:Nat)),.v (.int .u64 (qB a 3:Nat))] 53,.cells [.v (.int .u64 0),.v (.int .u64 0),.v (.int .u64 0),.v (.int .u64 0)] 53,.cells [.v (.int .u64 (qB P 0:Nat)),.v (.int .u64 (qB P 1:Nat)),.v (.int .u64 (qB P 2:Nat)),.v (.int .u64 (qB P 3:Nat))] 53]⟩ K R)=W (c2C (eI a) (eI P) fun(a_1 b:Nat)=>bif !decide (a_1<b) then c2C (eI a) (eI P) fun(a b:Nat)=>(∀ M:Mem,0+4≤4)∧K [.rnd [0,0,0,1,1,1,1] M,.blk 2,.at [1,1,1,1,1]] (St.mk [(3,.p 0 0),(4,.p 1 0),(8,.p 2 0)] [.cells [.v (qC (↑(qB (yB a b) 0):Int)),.v (qC (↑(qB (yB a b) 1):Int)),.v (qC (↑(qB (yB a b) 2):Int)),.v (qC (↑(qB (yB a b) 3):Int))] 53,.cells [.v (qC 0),.v (qC 0),.v (qC 0),.v (qC 0)] 53,.cells [.v (qC (↑(qB P 0):Int)),.v (qC (↑(qB P 1):Int)),.v (qC (↑(qB P 2):Int)),.v (qC (↑(qB P 3):Int))] 53]) else(∀ M:Mem,0+4≤4)∧R ((eS a)) []):=by kernel_rfl
theorem qYe(P:Nat)(hP:P<top)(Q:SV→List HO→Prop):∀(n a:Nat),a<top→a<(n+1)*P→Q (eS (fR P a)) []→FOk Tryz.prog Tryz.f65 Q (.rnd [0,0,0,1,1,1,1] (n+1)::[.blk 2,.at [1,1,1,1,1]]) ⟨[(3,.p 0 0),(4,.p 1 0),(8,.p 2 0)],[.cells [.v (.int .u64 (qB a 0:Nat)),.v (.int .u64 (qB a 1:Nat)),.v (.int .u64 (qB a 2:Nat)),.v (.int .u64 (qB a 3:Nat))] 53,.cells [.v (.int .u64 0),.v (.int .u64 0),.v (.int .u64 0),.v (.int .u64 0)] 53,.cells [.v (.int .u64 (qB P 0:Nat)),.v (.int .u64 (qB P 1:Nat)),.v (.int .u64 (qB P 2:Nat)),.v (.int .u64 (qB P 3:Nat))] 53]⟩
 | 0,a,ha,hn,hq=>by
  refine FOk.rnd (qD hm 60 ((roL a P 0 _ _).mpr ⟨?_⟩))
  rw[jJ,Nat.mod_eq_of_lt (by omega)] at hq
  refine zJ a P ha hP ?_
  rw[decide_eq_true (by omega:a<P)]
  exact And.intro (fun _=>by omega) hq
 | n+1,a,ha,hn,hq=>by
  refine FOk.rnd (qD hm 60 ((roL a P (n+1) _ _).mpr ⟨?_⟩))
  refine zJ a P ha hP ?_
  by_cases h:a<P
  ·rw[jJ,Nat.mod_eq_of_lt h] at hq
   rw[decide_eq_true h]
   exact And.intro (fun _=>by omega) hq
  ·rw[decide_eq_false h]
   refine zJ a P ha hP (And.intro (fun _=>by omega) ?_)
   rw[zF a P (by omega) 0 (by omega),zF a P (by omega) 1 (by omega),zF a P (by omega) 2 (by omega),zF a P (by omega) 3 (by omega)]
   refine qYe P hP Q n (a-P) (by omega) ?_ ?_
   ·rw[Nat.add_mul (n+1) 1 P,Nat.one_mul] at hn; omega
   ·rw[jJ,← Nat.mod_eq_sub_mod (by omega),← jJ]; exact hq
theorem bRo:Tryz.f65.body.isSome=true:=by kernel_rfl
theorem nRo(s:Int)(a:Nat):Nat.ble [SV.v (.int .i64 s),eS a].length Tryz.f65.ntmps=true:=by kernel_rfl
theorem zSn(s:Int)(a:Nat)(ha:a<top)(Q:SV→List HO→Prop)(hq:Q (eS (fO s a)) []):qI Tryz.prog 65 [.v (.int .i64 s),eS a] [] Q:=by
 have hl:=qRl s
 have lit:s=0∨s=1→Q (.agg [.v (.int .u64 ((a%zV s:Nat):Int)),.v (.int .u64 0),.v (.int .u64 0),.v (.int .u64 0)]) []:=fun h=>by
  rw[fO,if_neg (by rw[← qKd h]; omega),← qKd h,jJ] at hq
  have:=Nat.mod_lt a (show 0<zV s by omega)
  obtain⟨e0,e1,e2,e3⟩:=qU (a%zV s) (by omega)
  rw[eS,e0,e1,e2,e3] at hq
  exact hq
 refine qJ Tryz.func65 bRo ?_ ?_
 ·exact nRo s a
 refine qD hm 60 ((roS s a _ _).mpr ⟨?_⟩)
 simp only[qT,qN,zPt (zV s) a hl.2 (by omega) ha,forall_const]
 refine qE (fun h=>?_) (fun h0=>qE (fun h=>?_) (fun h1=>?_))
 ·repeat' (first | refine And.intro ?_ ?_)
  all_goals first
   | exact lit (.inl h)
   | omega
 ·repeat' (first | refine And.intro ?_ ?_)
  all_goals first
   | exact lit (.inr h)
   | omega
 ·refine And.intro (by omega) (qE (fun h=>?_) (fun h=>And.intro (by omega) ?_))
  ·rw[qBm] at h
   rw[fO,if_neg h] at hq
   have h4:fP s<top∧top≤4*fP s:=by
    unfold fP at h ⊢
    rw[if_neg h0,if_neg h1] at h ⊢
    simp only[top]
    split at h
    ·rename_i e; rw[if_pos e]; omega
    ·rename_i e; rw[if_neg e]; split at h
     ·rename_i e; rw[if_pos e]; omega
     ·exact absurd rfl h
   exact FOk.loop 4 (by kernel_rfl) (qYe (fP s) h4.1 Q 3 a ha (by omega) hq)
  ·have h:fP s=0:=by
    by_cases e:fP s=0
    ·exact e
    ·exact absurd ((qBm s).2 e) h
   rw[fO,if_pos h,xM] at hq
   exact hq
noncomputable def gRo:List SV→List HO→Option ((SV→List HO→Prop)→Prop)
 | [.v (.int .i64 s),.agg [.v (.int .u64 a0),.v (.int .u64 a1),.v (.int .u64 a2),.v (.int .u64 a3)]],[]=>some fun Q=>c1C [a0,a1,a2,a3] fun a=>Q (eS (fO s a)) []
 | _,_=>none
theorem zDc(args:List SV)(h:List HO)(tr:(SV→List HO→Prop)→Prop)(Q:SV→List HO→Prop)(hc:gRo args h=some tr)(ht:tr Q):qI Tryz.prog 65 args h Q:=by
 unfold gRo at hc
 split at hc
 ·rename_i s a0 a1 a2 a3
  simp only[sI] at hc
  subst hc
  obtain⟨a,e1,ha,hq⟩:=ht.h
  simp only[List.cons.injEq,and_true] at e1
  obtain⟨rfl,rfl,rfl,rfl⟩:=e1
  exact zSn s a ha Q hq
 ·cases hc
noncomputable def K40:Con Tryz.prog:=K39.add 65 gRo zDc
end Go.Proofs.YtlmjdcbhpffanaaGreat
/- The document's sums and products in the fields. -/
namespace Go.Pl
open Go.Sx
theorem qKy(s:Int)(a:Nat):fO s a<top:=by
 rw[fO]
 rcases qGe s with h | h
 ·rw[if_pos h]; exact qIk
 ·rw[if_neg (by omega)]; exact(qLj h a).1
theorem zAl{p:Nat}(hp:2<p)(hs:p≤16521217)(a b:Nat):SV.agg [SV.v (qC (Int.tmod (IntKind.wrap IntKind.u64 ((↑(qB (fR p a) 0):Int)+(↑(qB (fR p b) 0):Int))) (p:Int))),SV.v (qC (0:Int)),SV.v (qC (0:Int)),SV.v (qC (0:Int))]=eS (fA p a b):=by
 have h1:=qFw p a (by omega)
 have h2:=qFw p b (by omega)
 have h3:=zIo hp a b
 obtain⟨l0,l1,l2,l3⟩:=qU (fA p a b) (by omega)
 rw[(qU (fR p a) (by omega)).1,(qU (fR p b) (by omega)).1,zAc,wT _ (by omega),eS,l0,l1,l2,l3]
 rw[show Int.tmod ((fR p a+fR p b:Nat):Int) (p:Int)=((( fR p a+fR p b)%p:Nat):Int) from rfl,qFo,jJ,jJ,← Nat.add_mod]
 rfl
theorem zCr(b i:Nat)(hi:i<256):(IntKind.wrap IntKind.u64 (↑(Int.toNat (Int.fdiv (↑(qB b (i / 64)):Int) ((2:Int)^if i%64%18446744073709551616≤64 then i%64%18446744073709551616 else 64)%(18446744073709551616:Int))&&&1):Int)==(1:Int))=decide (b / 2^i%2=1):=by
 have hk:i%64<64:=Nat.mod_lt _ (by omega)
 rw[Nat.mod_eq_of_lt (show i%64<18446744073709551616 by omega),if_pos (by omega)]
 have e1:Int.fdiv (↑(qB b (i / 64)):Int) ((2:Int)^(i%64))=((qB b (i / 64) / 2^(i%64):Nat):Int):=by
  rw[show((2:Int)^(i%64))=((2^(i%64):Nat):Int) by norm_cast]
  exact Int.fdiv_eq_ediv_of_nonneg _ (Int.natCast_nonneg _)
 rw[e1]
 have hl:=qO b (i / 64)
 have hle:qB b (i / 64) / 2^(i%64)≤qB b (i / 64):=Nat.div_le_self _ _
 rw[show ∀ y:Nat,y<18446744073709551616→Int.toNat ((y:Int)%(18446744073709551616:Int))=y from fun y hy=>by omega]
 rotate_left
 ·exact Nat.lt_of_le_of_lt hle hl
 rw[show ∀ x:Nat,x&&&1=x%2 from fun x=>Nat.and_one_is_mod x]
 rw[wT _ (by omega)]
 have key:qB b (i / 64) / 2^(i%64)%2=b / 2^i%2:=by
  have h2:(18446744073709551616:Nat)=2^64:=by decide
  rw[qB,qQ,h2,← Nat.pow_mul]
  have t:=Nat.testBit_mod_two_pow (b / 2^(64*(i / 64))) 64 (i%64)
  rw[decide_eq_true hk,Bool.true_and,Nat.testBit_div_two_pow,Nat.testBit_eq_decide_div_mod_eq,Nat.testBit_eq_decide_div_mod_eq,decide_eq_decide] at t
  rw[show i%64+64*(i / 64)=i by omega] at t
  omega
 rw[key,Bool.eq_iff_iff,beq_iff_eq,decide_eq_true_iff]
 omega
theorem zAx(b i:Nat):b / 2^i=2*(b / 2^(i+1))+b / 2^i%2:=by
 rw[Nat.pow_succ,← Nat.div_div_eq_div_mul]; omega
theorem zFv(P x a:Nat):(2*(x*a%P))%P=2*x*a%P:=by
 rw[Nat.mul_mod_mod,Nat.mul_assoc]
theorem qZh(P x a:Nat):(2*x*a%P+a)%P=(2*x+1)*a%P:=by
 rw[Nat.mod_add_mod,Nat.add_mul (2*x) 1 a,Nat.one_mul]
theorem zLd(P x:Nat)(h:x<2*P):(x<P→x%P=x)∧(¬ x<P→x%P=x-P) :=
 ⟨fun h1=>Nat.mod_eq_of_lt h1,fun h1=>by rw[Nat.mod_eq_sub_mod (by omega),Nat.mod_eq_of_lt (by omega)]⟩
theorem zEd(b i:Nat)(hi:i<256):[SV.v (qC (↑(qB b 0):Int)),SV.v (qC (↑(qB b 1):Int)),SV.v (qC (↑(qB b 2):Int)),SV.v (qC (↑(qB b 3):Int))][0+Int.toNat (IntKind.wrap IntKind.i64 (Int.tdiv (↑i:Int) (64:Int)))*1]?=some (SV.v (qC (↑(qB b (i / 64)):Int))):=by
 rw[show Int.tdiv (i:Int) 64=((i / 64:Nat):Int) from rfl,qKl _ (by omega),Int.toNat_natCast,Nat.zero_add,Nat.mul_one]
 have:i / 64=0∨i / 64=1∨i / 64=2∨i / 64=3:=by omega
 rcases this with h | h | h | h <;> rw[h] <;> rfl
end Go.Pl
namespace Go.Proofs.YtlmjdcbhpffanaaGreat
open Go.Sx Go.Pl
set_option linter.unusedVariables false
set_option maxRecDepth 100000
theorem rAS(s:Int)(a b:Nat)(K:List It→St→Prop)(R:SV→List HO→Prop):W (xwp Tryz.prog X K40 [] 60 (qK Tryz.f126 [] []) [] [.at []] ⟨qR 0 [.v (.int .i64 s),eS a,eS b],[]⟩ K R)=W (bif s==(0:Int) then c1C (eI a) fun(a:Nat)=>(∀ M:Mem,(0:Int)≤(0:Int)∧(0:Int)<(4:Int))∧c1C (eI b) fun(a_1:Nat)=>(∀ M:Mem,(0:Int)≤(0:Int)∧(0:Int)<(4:Int))∧(∀ M:Mem,¬(↑(zV s):Int)=(0:Int))∧(∀ M:Mem,0+4≤4)∧R (.agg [.v (qC (Int.tmod (IntKind.wrap IntKind.u64 ((↑(qB (fO s a) 0):Int)+(↑(qB (fO s a_1) 0):Int))) (↑(zV s):Int))),.v (qC 0),.v (qC 0),.v (qC 0)]) [] else bif s==(1:Int) then c1C (eI a) fun(a:Nat)=>(∀ M:Mem,(0:Int)≤(0:Int)∧(0:Int)<(4:Int))∧c1C (eI b) fun(a_1:Nat)=>(∀ M:Mem,(0:Int)≤(0:Int)∧(0:Int)<(4:Int))∧(∀ M:Mem,¬(↑(zV s):Int)=(0:Int))∧(∀ M:Mem,0+4≤4)∧R (.agg [.v (qC (Int.tmod (IntKind.wrap IntKind.u64 ((↑(qB (fO s a) 0):Int)+(↑(qB (fO s a_1) 0):Int))) (↑(zV s):Int))),.v (qC 0),.v (qC 0),.v (qC 0)]) [] else c1C (eI a) fun(a:Nat)=>c1C (eI b) fun(a_1:Nat)=>c2C (eI (fO s a)) (eI (fO s a_1)) fun(a b:Nat)=>c1C (eI (zP a b)) fun(a:Nat)=>(∀ M:Mem,0+4≤4)∧R ((eS (fO s a))) []):=by kernel_rfl
theorem rNS(s:Int)(a:Nat)(K:List It→St→Prop)(R:SV→List HO→Prop):W (xwp Tryz.prog X K40 [] 60 (qK Tryz.f125 [] []) [] [.at []] ⟨qR 0 [.v (.int .i64 s),eS a],[]⟩ K R)=W ((∀ M:Mem,0+4≤4)∧bif !fE s==(0:Int) then(∀ M:Mem,4≤4)∧R (.agg [.v (qC 0),.v (qC 0),.v (qC 0),.v (qC 0)]) [] else c1C (eI a) fun(a:Nat)=>c2C (eI (fP s)) (eI (fO s a)) fun(a b:Nat)=>c1C (eI (yB a b)) fun(a:Nat)=>(∀ M:Mem,0+4≤4)∧R ((eS (fO s a))) []):=by kernel_rfl
theorem rMS(s:Int)(a b:Nat)(K:List It→St→Prop)(R:SV→List HO→Prop):W (xwp Tryz.prog X K40 [] 60 (qK Tryz.f127 [] [⟨[0,1,0,1,1,1,1,1,1,1],[4,5,6,7,9,10],[]⟩]) [] [.at []] ⟨qR 0 [.v (.int .i64 s),eS a,eS b],[]⟩ K R)=W (bif s==(0:Int) then c1C (eI a) fun(a:Nat)=>(∀ M:Mem,(0:Int)≤(0:Int)∧(0:Int)<(4:Int))∧c1C (eI b) fun(a_1:Nat)=>(∀ M:Mem,(0:Int)≤(0:Int)∧(0:Int)<(4:Int))∧(∀ M:Mem,¬(↑(zV s):Int)=(0:Int))∧(∀ M:Mem,0+4≤4)∧R (.agg [.v (qC (Int.tmod (IntKind.wrap IntKind.u64 ((↑(qB (fO s a) 0):Int)*(↑(qB (fO s a_1) 0):Int))) (↑(zV s):Int))),.v (qC 0),.v (qC 0),.v (qC 0)]) [] else bif s==(1:Int) then c1C (eI a) fun(a:Nat)=>(∀ M:Mem,(0:Int)≤(0:Int)∧(0:Int)<(4:Int))∧c1C (eI b) fun(a_1:Nat)=>(∀ M:Mem,(0:Int)≤(0:Int)∧(0:Int)<(4:Int))∧(∀ M:Mem,¬(↑(zV s):Int)=(0:Int))∧(∀ M:Mem,0+4≤4)∧R (.agg [.v (qC (Int.tmod (IntKind.wrap IntKind.u64 ((↑(qB (fO s a) 0):Int)*(↑(qB (fO s a_1) 0):Int))) (↑(zV s):Int))),.v (qC 0),.v (qC 0),.v (qC 0)]) [] else(∀ M:Mem,0+4≤4)∧bif !fE s==(0:Int) then(∀ M:Mem,4≤4)∧R (.agg [.v (qC 0),.v (qC 0),.v (qC 0),.v (qC 0)]) [] else c1C (eI a) fun(a:Nat)=>(∀ M:Mem,0+4≤4)∧c1C (eI b) fun(a_1:Nat)=>(∀ M:Mem,0+4≤4)∧(∀ M:Mem,4≤4)∧K [.at [0,1,0,1,1,1,1,1,1,1],.blk 0,.at [1,1,1,1,1,1,1,1]] (St.mk [(4,.p 0 0),(5,.p 1 0),(6,.p 2 0),(7,.p 3 0),(9,.p 4 0),(10,.v (qA 255))] [.cells [.v (qC (↑(qB (fO s a) 0):Int)),.v (qC (↑(qB (fO s a) 1):Int)),.v (qC (↑(qB (fO s a) 2):Int)),.v (qC (↑(qB (fO s a) 3):Int))] 53,.cells [.v (qC (↑(qB (fO s a_1) 0):Int)),.v (qC (↑(qB (fO s a_1) 1):Int)),.v (qC (↑(qB (fO s a_1) 2):Int)),.v (qC (↑(qB (fO s a_1) 3):Int))] 53,.cells [.v (qC 0),.v (qC 0),.v (qC 0),.v (qC 0)] 53,.cells [.v (qC (↑(qB (fP s) 0):Int)),.v (qC (↑(qB (fP s) 1):Int)),.v (qC (↑(qB (fP s) 2):Int)),.v (qC (↑(qB (fP s) 3):Int))] 53,.cells [.v (qC 0),.v (qC 0),.v (qC 0),.v (qC 0)] 53])):=by kernel_rfl
theorem rML(a b P o i j M:Nat)(K:List It→St→Prop)(R:SV→List HO→Prop):W (xwp Tryz.prog X K40 [] 60 (qK Tryz.f127 [] [⟨[0,1,0,1,1,1,1,1,1,1],[4,5,6,7,9,10],[]⟩]) [.lo 1 (.v (.int .u64 (qB b j:Nat)))] (.at [0,0,1,0,1,1,1,1,1,1,1]::.rnd [0,0,1,0,1,1,1,1,1,1,1] M::[.blk 0,.at [1,1,1,1,1,1,1,1]]) ⟨[(4,.p 0 0),(5,.p 1 0),(6,.p 2 0),(7,.p 3 0),(9,.p 4 0),(10,.v (.int .i64 (i:Int)))],[.cells [.v (.int .u64 (qB a 0:Nat)),.v (.int .u64 (qB a 1:Nat)),.v (.int .u64 (qB a 2:Nat)),.v (.int .u64 (qB a 3:Nat))] 53,.cells [.v (.int .u64 (qB b 0:Nat)),.v (.int .u64 (qB b 1:Nat)),.v (.int .u64 (qB b 2:Nat)),.v (.int .u64 (qB b 3:Nat))] 53,.cells [.v (.int .u64 0),.v (.int .u64 0),.v (.int .u64 0),.v (.int .u64 0)] 53,.cells [.v (.int .u64 (qB P 0:Nat)),.v (.int .u64 (qB P 1:Nat)),.v (.int .u64 (qB P 2:Nat)),.v (.int .u64 (qB P 3:Nat))] 53,.cells [.v (.int .u64 (qB o 0:Nat)),.v (.int .u64 (qB o 1:Nat)),.v (.int .u64 (qB o 2:Nat)),.v (.int .u64 (qB o 3:Nat))] 53]⟩ K R)=W (c2C (eI o) (eI o) fun(a_1 b_1:Nat)=>(∀ M:Mem,0+4≤4)∧c2C (eI (zP a_1 b_1)) (eI P) fun(a_2 b_2:Nat)=>bif !decide (a_2<b_2) then c2C (eI (zP a_1 b_1)) (eI P) fun(a_3 b_3:Nat)=>(∀ M:Mem,0+4≤4)∧(∀ M:Mem,¬(64:Int)=(0:Int))∧(∀ M:Mem,(0:Int)≤IntKind.wrap .i64 (Int.tdiv (↑i:Int) (64:Int))∧IntKind.wrap .i64 (Int.tdiv (↑i:Int) (64:Int))<(4:Int))∧(∀ M:Mem,[SV.v (qC (↑(qB b 0):Int)),SV.v (qC (↑(qB b 1):Int)),SV.v (qC (↑(qB b 2):Int)),SV.v (qC (↑(qB b 3):Int))][0+Int.toNat (IntKind.wrap .i64 (Int.tdiv (↑i:Int) (64:Int)))*1]?=some (SV.v (qC (↑(qB b j):Int))))∧(∀ M:Mem,¬(64:Int)=(0:Int))∧(∀ M:Mem,¬IntKind.wrap IntKind.u64 (Int.tmod (↑i:Int) (64:Int))<(0:Int))∧bif IntKind.wrap IntKind.u64 (↑(Int.toNat (Int.fdiv (↑(qB b j):Int) ((2:Int)^if i%64%18446744073709551616≤64 then i%64%18446744073709551616 else 64)%(18446744073709551616:Int))&&&1):Int)==(1:Int) then c2C (eI (yB a_3 b_3)) (eI a) fun(a_4 b_4:Nat)=>(∀ M:Mem,0+4≤4)∧c2C (eI (zP a_4 b_4)) (eI P) fun(a_5 b_5:Nat)=>bif !decide (a_5<b_5) then c2C (eI (zP a_4 b_4)) (eI P) fun(a_6 b_6:Nat)=>(∀ M:Mem,0+4≤4)∧K [It.rnd [0,0,1,0,1,1,1,1,1,1,1] M,It.blk 0,It.at [1,1,1,1,1,1,1,1]] (St.mk [(4,SV.p 0 0),(5,SV.p 1 0),(6,SV.p 2 0),(7,SV.p 3 0),(9,SV.p 4 0),(10,SV.v (qA (IntKind.wrap .i64 ((↑i:Int)-(1:Int)))))] [HO.cells [SV.v (qC (↑(qB a 0):Int)),SV.v (qC (↑(qB a 1):Int)),SV.v (qC (↑(qB a 2):Int)),SV.v (qC (↑(qB a 3):Int))] 53,HO.cells [SV.v (qC (↑(qB b 0):Int)),SV.v (qC (↑(qB b 1):Int)),SV.v (qC (↑(qB b 2):Int)),SV.v (qC (↑(qB b 3):Int))] 53,HO.cells [SV.v (qC 0),SV.v (qC 0),SV.v (qC 0),SV.v (qC 0)] 53,HO.cells [SV.v (qC (↑(qB P 0):Int)),SV.v (qC (↑(qB P 1):Int)),SV.v (qC (↑(qB P 2):Int)),SV.v (qC (↑(qB P 3):Int))] 53,HO.cells [SV.v (qC (↑(qB (yB a_6 b_6) 0):Int)),SV.v (qC (↑(qB (yB a_6 b_6) 1):Int)),SV.v (qC (↑(qB (yB a_6 b_6) 2):Int)),SV.v (qC (↑(qB (yB a_6 b_6) 3):Int))] 53]) else K [It.rnd [0,0,1,0,1,1,1,1,1,1,1] M,It.blk 0,It.at [1,1,1,1,1,1,1,1]] (St.mk [(4,SV.p 0 0),(5,SV.p 1 0),(6,SV.p 2 0),(7,SV.p 3 0),(9,SV.p 4 0),(10,SV.v (qA (IntKind.wrap .i64 ((↑i:Int)-(1:Int)))))] [HO.cells [SV.v (qC (↑(qB a 0):Int)),SV.v (qC (↑(qB a 1):Int)),SV.v (qC (↑(qB a 2):Int)),SV.v (qC (↑(qB a 3):Int))] 53,HO.cells [SV.v (qC (↑(qB b 0):Int)),SV.v (qC (↑(qB b 1):Int)),SV.v (qC (↑(qB b 2):Int)),SV.v (qC (↑(qB b 3):Int))] 53,HO.cells [SV.v (qC 0),SV.v (qC 0),SV.v (qC 0),SV.v (qC 0)] 53,HO.cells [SV.v (qC (↑(qB P 0):Int)),SV.v (qC (↑(qB P 1):Int)),SV.v (qC (↑(qB P 2):Int)),SV.v (qC (↑(qB P 3):Int))] 53,HO.cells [SV.v (qC (↑(qB (zP a_4 b_4) 0):Int)),SV.v (qC (↑(qB (zP a_4 b_4) 1):Int)),SV.v (qC (↑(qB (zP a_4 b_4) 2):Int)),SV.v (qC (↑(qB (zP a_4 b_4) 3):Int))] 53]) else K [It.rnd [0,0,1,0,1,1,1,1,1,1,1] M,It.blk 0,It.at [1,1,1,1,1,1,1,1]] (St.mk [(4,SV.p 0 0),(5,SV.p 1 0),(6,SV.p 2 0),(7,SV.p 3 0),(9,SV.p 4 0),(10,SV.v (qA (IntKind.wrap .i64 ((↑i:Int)-(1:Int)))))] [HO.cells [SV.v (qC (↑(qB a 0):Int)),SV.v (qC (↑(qB a 1):Int)),SV.v (qC (↑(qB a 2):Int)),SV.v (qC (↑(qB a 3):Int))] 53,HO.cells [SV.v (qC (↑(qB b 0):Int)),SV.v (qC (↑(qB b 1):Int)),SV.v (qC (↑(qB b 2):Int)),SV.v (qC (↑(qB b 3):Int))] 53,HO.cells [SV.v (qC 0),SV.v (qC 0),SV.v (qC 0),SV.v (qC 0)] 53,HO.cells [SV.v (qC (↑(qB P 0):Int)),SV.v (qC (↑(qB P 1):Int)),SV.v (qC (↑(qB P 2):Int)),SV.v (qC (↑(qB P 3):Int))] 53,HO.cells [SV.v (qC (↑(qB (yB a_3 b_3) 0):Int)),SV.v (qC (↑(qB (yB a_3 b_3) 1):Int)),SV.v (qC (↑(qB (yB a_3 b_3) 2):Int)),SV.v (qC (↑(qB (yB a_3 b_3) 3):Int))] 53]) else(∀ M:Mem,¬(64:Int)=(0:Int))∧(∀ M:Mem,(0:Int)≤IntKind.wrap .i64 (Int.tdiv (↑i:Int) (64:Int))∧IntKind.wrap .i64 (Int.tdiv (↑i:Int) (64:Int))<(4:Int))∧(∀ M:Mem,[SV.v (qC (↑(qB b 0):Int)),SV.v (qC (↑(qB b 1):Int)),SV.v (qC (↑(qB b 2):Int)),SV.v (qC (↑(qB b 3):Int))][0+Int.toNat (IntKind.wrap .i64 (Int.tdiv (↑i:Int) (64:Int)))*1]?=some (SV.v (qC (↑(qB b j):Int))))∧(∀ M:Mem,¬(64:Int)=(0:Int))∧(∀ M:Mem,¬IntKind.wrap IntKind.u64 (Int.tmod (↑i:Int) (64:Int))<(0:Int))∧bif IntKind.wrap IntKind.u64 (↑(Int.toNat (Int.fdiv (↑(qB b j):Int) ((2:Int)^if i%64%18446744073709551616≤64 then i%64%18446744073709551616 else 64)%(18446744073709551616:Int))&&&1):Int)==(1:Int) then c2C (eI (zP a_1 b_1)) (eI a) fun(a_3 b_3:Nat)=>(∀ M:Mem,0+4≤4)∧c2C (eI (zP a_3 b_3)) (eI P) fun(a_4 b_4:Nat)=>bif !decide (a_4<b_4) then c2C (eI (zP a_3 b_3)) (eI P) fun(a_5 b_5:Nat)=>(∀ M:Mem,0+4≤4)∧K [It.rnd [0,0,1,0,1,1,1,1,1,1,1] M,It.blk 0,It.at [1,1,1,1,1,1,1,1]] (St.mk [(4,SV.p 0 0),(5,SV.p 1 0),(6,SV.p 2 0),(7,SV.p 3 0),(9,SV.p 4 0),(10,SV.v (qA (IntKind.wrap .i64 ((↑i:Int)-(1:Int)))))] [HO.cells [SV.v (qC (↑(qB a 0):Int)),SV.v (qC (↑(qB a 1):Int)),SV.v (qC (↑(qB a 2):Int)),SV.v (qC (↑(qB a 3):Int))] 53,HO.cells [SV.v (qC (↑(qB b 0):Int)),SV.v (qC (↑(qB b 1):Int)),SV.v (qC (↑(qB b 2):Int)),SV.v (qC (↑(qB b 3):Int))] 53,HO.cells [SV.v (qC 0),SV.v (qC 0),SV.v (qC 0),SV.v (qC 0)] 53,HO.cells [SV.v (qC (↑(qB P 0):Int)),SV.v (qC (↑(qB P 1):Int)),SV.v (qC (↑(qB P 2):Int)),SV.v (qC (↑(qB P 3):Int))] 53,HO.cells [SV.v (qC (↑(qB (yB a_5 b_5) 0):Int)),SV.v (qC (↑(qB (yB a_5 b_5) 1):Int)),SV.v (qC (↑(qB (yB a_5 b_5) 2):Int)),SV.v (qC (↑(qB (yB a_5 b_5) 3):Int))] 53]) else K [It.rnd [0,0,1,0,1,1,1,1,1,1,1] M,It.blk 0,It.at [1,1,1,1,1,1,1,1]] (St.mk [(4,SV.p 0 0),(5,SV.p 1 0),(6,SV.p 2 0),(7,SV.p 3 0),(9,SV.p 4 0),(10,SV.v (qA (IntKind.wrap .i64 ((↑i:Int)-(1:Int)))))] [HO.cells [SV.v (qC (↑(qB a 0):Int)),SV.v (qC (↑(qB a 1):Int)),SV.v (qC (↑(qB a 2):Int)),SV.v (qC (↑(qB a 3):Int))] 53,HO.cells [SV.v (qC (↑(qB b 0):Int)),SV.v (qC (↑(qB b 1):Int)),SV.v (qC (↑(qB b 2):Int)),SV.v (qC (↑(qB b 3):Int))] 53,HO.cells [SV.v (qC 0),SV.v (qC 0),SV.v (qC 0),SV.v (qC 0)] 53,HO.cells [SV.v (qC (↑(qB P 0):Int)),SV.v (qC (↑(qB P 1):Int)),SV.v (qC (↑(qB P 2):Int)),SV.v (qC (↑(qB P 3):Int))] 53,HO.cells [SV.v (qC (↑(qB (zP a_3 b_3) 0):Int)),SV.v (qC (↑(qB (zP a_3 b_3) 1):Int)),SV.v (qC (↑(qB (zP a_3 b_3) 2):Int)),SV.v (qC (↑(qB (zP a_3 b_3) 3):Int))] 53]) else K [It.rnd [0,0,1,0,1,1,1,1,1,1,1] M,It.blk 0,It.at [1,1,1,1,1,1,1,1]] (St.mk [(4,SV.p 0 0),(5,SV.p 1 0),(6,SV.p 2 0),(7,SV.p 3 0),(9,SV.p 4 0),(10,SV.v (qA (IntKind.wrap .i64 ((↑i:Int)-(1:Int)))))] [HO.cells [SV.v (qC (↑(qB a 0):Int)),SV.v (qC (↑(qB a 1):Int)),SV.v (qC (↑(qB a 2):Int)),SV.v (qC (↑(qB a 3):Int))] 53,HO.cells [SV.v (qC (↑(qB b 0):Int)),SV.v (qC (↑(qB b 1):Int)),SV.v (qC (↑(qB b 2):Int)),SV.v (qC (↑(qB b 3):Int))] 53,HO.cells [SV.v (qC 0),SV.v (qC 0),SV.v (qC 0),SV.v (qC 0)] 53,HO.cells [SV.v (qC (↑(qB P 0):Int)),SV.v (qC (↑(qB P 1):Int)),SV.v (qC (↑(qB P 2):Int)),SV.v (qC (↑(qB P 3):Int))] 53,HO.cells [SV.v (qC (↑(qB (zP a_1 b_1) 0):Int)),SV.v (qC (↑(qB (zP a_1 b_1) 1):Int)),SV.v (qC (↑(qB (zP a_1 b_1) 2):Int)),SV.v (qC (↑(qB (zP a_1 b_1) 3):Int))] 53])):=by kernel_rfl
theorem rME(a b P o M:Nat)(K:List It→St→Prop)(R:SV→List HO→Prop):W (xwp Tryz.prog X K40 [] 60 (qK Tryz.f127 [] [⟨[0,1,0,1,1,1,1,1,1,1],[4,5,6,7,9,10],[]⟩]) [] (.at [0,0,1,0,1,1,1,1,1,1,1]::.rnd [0,0,1,0,1,1,1,1,1,1,1] M::[.blk 0,.at [1,1,1,1,1,1,1,1]]) ⟨[(4,.p 0 0),(5,.p 1 0),(6,.p 2 0),(7,.p 3 0),(9,.p 4 0),(10,.v (.int .i64 (-1)))],[.cells [.v (.int .u64 (qB a 0:Nat)),.v (.int .u64 (qB a 1:Nat)),.v (.int .u64 (qB a 2:Nat)),.v (.int .u64 (qB a 3:Nat))] 53,.cells [.v (.int .u64 (qB b 0:Nat)),.v (.int .u64 (qB b 1:Nat)),.v (.int .u64 (qB b 2:Nat)),.v (.int .u64 (qB b 3:Nat))] 53,.cells [.v (.int .u64 0),.v (.int .u64 0),.v (.int .u64 0),.v (.int .u64 0)] 53,.cells [.v (.int .u64 (qB P 0:Nat)),.v (.int .u64 (qB P 1:Nat)),.v (.int .u64 (qB P 2:Nat)),.v (.int .u64 (qB P 3:Nat))] 53,.cells [.v (.int .u64 (qB o 0:Nat)),.v (.int .u64 (qB o 1:Nat)),.v (.int .u64 (qB o 2:Nat)),.v (.int .u64 (qB o 3:Nat))] 53]⟩ K R)=W ((∀ M:Mem,0+4≤4)∧R ((eS o)) []):=by kernel_rfl
theorem bRA:Tryz.f126.body.isSome=true:=by kernel_rfl
theorem nRA(s:Int)(a b:Nat):Nat.ble [SV.v (.int .i64 s),eS a,eS b].length Tryz.f126.ntmps=true:=by kernel_rfl
theorem zRo(s:Int)(a b:Nat)(ha:a<top)(hb:b<top)(Q:SV→List HO→Prop)(hq:Q (eS (fAd s a b)) []):qI Tryz.prog 126 [.v (.int .i64 s),eS a,eS b] [] Q:=by
 have hl:=qRl s
 have lit:s=0∨s=1→Q (SV.agg [SV.v (qC (Int.tmod (IntKind.wrap IntKind.u64 ((↑(qB (fO s a) 0):Int)+(↑(qB (fO s b) 0):Int))) (↑(zV s):Int))),SV.v (qC (0:Int)),SV.v (qC (0:Int)),SV.v (qC (0:Int))]) []:=fun h=>by
  have e:=qKd h
  rw[fAd,if_neg (by omega),← e,← zAl (by omega) hl.2] at hq
  rw[fO,if_neg (by omega),fO,if_neg (by omega),← e]
  exact hq
 refine qJ Tryz.func126 bRA ?_ ?_
 ·exact nRA s a b
 refine qD hm 60 ((rAS s a b _ _).mpr ⟨?_⟩)
 simp only[qT]
 refine qE (fun h=>?_) (fun h0=>qE (fun h=>?_) (fun h1=>?_))
 ·exact jP a ha (aI (jP b hb (aI (aI (aI (lit (.inl h)))))))
 ·exact jP a ha (aI (jP b hb (aI (aI (aI (lit (.inr h)))))))
 ·have e:fO s (zP (fO s a) (fO s b))=fAd s a b∧zP (fO s a) (fO s b)<top:=by
   rcases qGe s with h | h
   ·rw[fO,if_pos h,fAd,if_pos h,fO,if_pos h,fO,if_pos h,zP]
    exact⟨rfl,qIk⟩
   ·obtain⟨e1,e2⟩:=zEx (fP s) a b h
    rw[fO,if_neg (by omega),fAd,if_neg (by omega),fO,if_neg (by omega),fO,if_neg (by omega)]
    exact⟨e1,e2⟩
  rw[← e.1] at hq
  exact jP a ha (jP b hb (zJ _ _ (qKy s a) (qKy s b) (jP _ e.2 (And.intro (fun _=>by omega) hq))))
noncomputable def gRA:List SV→List HO→Option ((SV→List HO→Prop)→Prop)
 | [.v (.int .i64 s),.agg [.v (.int .u64 a0),.v (.int .u64 a1),.v (.int .u64 a2),.v (.int .u64 a3)],.agg [.v (.int .u64 b0),.v (.int .u64 b1),.v (.int .u64 b2),.v (.int .u64 b3)]],[]=>some fun Q=>c2C [a0,a1,a2,a3] [b0,b1,b2,b3] fun a b=>Q (eS (fAd s a b)) []
 | _,_=>none
theorem zJs(args:List SV)(h:List HO)(tr:(SV→List HO→Prop)→Prop)(Q:SV→List HO→Prop)(hc:gRA args h=some tr)(ht:tr Q):qI Tryz.prog 126 args h Q:=by
 unfold gRA at hc
 split at hc
 ·rename_i s a0 a1 a2 a3 b0 b1 b2 b3
  simp only[sI] at hc
  subst hc
  obtain⟨a,b,e1,e2,ha,hb,hq⟩:=ht.h
  simp only[List.cons.injEq,and_true] at e1 e2
  obtain⟨rfl,rfl,rfl,rfl⟩:=e1
  obtain⟨rfl,rfl,rfl,rfl⟩:=e2
  exact zRo s a b ha hb Q hq
 ·cases hc
theorem bRN:Tryz.f125.body.isSome=true:=by kernel_rfl
theorem nRN(s:Int)(a:Nat):Nat.ble [SV.v (.int .i64 s),eS a].length Tryz.f125.ntmps=true:=by kernel_rfl
theorem zRs(s:Int)(a:Nat)(ha:a<top)(Q:SV→List HO→Prop)(hq:Q (eS (fNg s a)) []):qI Tryz.prog 125 [.v (.int .i64 s),eS a] [] Q:=by
 refine qJ Tryz.func125 bRN ?_ ?_
 ·exact nRN s a
 refine qD hm 60 ((rNS s a _ _).mpr ⟨And.intro (fun _=>by omega) ?_⟩)
 rw[qN,qT]
 rcases qGe s with h | h
 ·rw[if_neg (by rw[zEl s h]; omega)]
  rw[fNg,if_pos h,xM] at hq
  exact And.intro (fun _=>by omega) hq
 ·rw[if_pos ((qBm s).2 (by omega))]
  have la:=qFw (fP s) a (by omega)
  have e:fO s (fP s-fO s a)=fNg s a:=by
   rw[fO,if_neg (by omega),fO,if_neg (by omega),fNg,if_neg (by omega),qTj,jJ,jJ]
  rw[← e] at hq
  refine jP a ha (zJ (fP s) _ (by omega) (qKy s a) ?_)
  have hle:fO s a≤fP s:=by rw[fO,if_neg (by omega)]; omega
  rw[qRv _ _ hle]
  exact jP _ (by omega) (And.intro (fun _=>by omega) hq)
noncomputable def gRN:List SV→List HO→Option ((SV→List HO→Prop)→Prop)
 | [.v (.int .i64 s),.agg [.v (.int .u64 a0),.v (.int .u64 a1),.v (.int .u64 a2),.v (.int .u64 a3)]],[]=>some fun Q=>c1C [a0,a1,a2,a3] fun a=>Q (eS (fNg s a)) []
 | _,_=>none
theorem zPo(args:List SV)(h:List HO)(tr:(SV→List HO→Prop)→Prop)(Q:SV→List HO→Prop)(hc:gRN args h=some tr)(ht:tr Q):qI Tryz.prog 125 args h Q:=by
 unfold gRN at hc
 split at hc
 ·rename_i s a0 a1 a2 a3
  simp only[sI] at hc
  subst hc
  obtain⟨a,e1,ha,hq⟩:=ht.h
  simp only[List.cons.injEq,and_true] at e1
  obtain⟨rfl,rfl,rfl,rfl⟩:=e1
  exact zRs s a ha Q hq
 ·cases hc
theorem yN(a b:Nat)(h:b≤a):qB (yB a b) 0=qB (a-b) 0∧qB (yB a b) 1=qB (a-b) 1∧qB (yB a b) 2=qB (a-b) 2∧qB (yB a b) 3=qB (a-b) 3:=⟨zF a b h 0 (by omega),zF a b h 1 (by omega),zF a b h 2 (by omega),zF a b h 3 (by omega)⟩
theorem qZa(a b P:Nat)(ha:a<P)(hP:2*P<top)(Q:SV→List HO→Prop)(hq:Q (eS (b*a%P)) []):∀(n o:Nat),n≤256→o=b / 2^n*a%P→FOk Tryz.prog Tryz.f127 Q (.rnd [0,0,1,0,1,1,1,1,1,1,1] (n+1)::[.blk 0,.at [1,1,1,1,1,1,1,1]]) ⟨[(4,.p 0 0),(5,.p 1 0),(6,.p 2 0),(7,.p 3 0),(9,.p 4 0),(10,.v (.int .i64 ((n:Int)-1)))],[.cells [.v (.int .u64 (qB a 0:Nat)),.v (.int .u64 (qB a 1:Nat)),.v (.int .u64 (qB a 2:Nat)),.v (.int .u64 (qB a 3:Nat))] 53,.cells [.v (.int .u64 (qB b 0:Nat)),.v (.int .u64 (qB b 1:Nat)),.v (.int .u64 (qB b 2:Nat)),.v (.int .u64 (qB b 3:Nat))] 53,.cells [.v (.int .u64 0),.v (.int .u64 0),.v (.int .u64 0),.v (.int .u64 0)] 53,.cells [.v (.int .u64 (qB P 0:Nat)),.v (.int .u64 (qB P 1:Nat)),.v (.int .u64 (qB P 2:Nat)),.v (.int .u64 (qB P 3:Nat))] 53,.cells [.v (.int .u64 (qB o 0:Nat)),.v (.int .u64 (qB o 1:Nat)),.v (.int .u64 (qB o 2:Nat)),.v (.int .u64 (qB o 3:Nat))] 53]⟩
 | 0,o,hn,ho=>by
  rw[Nat.pow_zero,Nat.div_one] at ho
  refine FOk.rnd (qD hm 60 ((rME a b P o 0 _ _).mpr ⟨And.intro (fun _=>by omega) ?_⟩))
  rw[ho]; exact hq
 | n+1,o,hn,ho=>by
  have hlt:o<P:=by rw[ho]; exact Nat.mod_lt _ (by omega)
  rw[show((n+1:Nat):Int)-1=(n:Int) by omega]
  refine FOk.rnd (qD hm 60 ((rML a b P o n (n / 64) (n+1) _ _).mpr ⟨?_⟩))
  rw[zCr b n (by omega),zEd b n (by omega)]
  have next:∀ o',o'=b / 2^n*a%P→FOk Tryz.prog Tryz.f127 Q (.rnd [0,0,1,0,1,1,1,1,1,1,1] (n+1)::[.blk 0,.at [1,1,1,1,1,1,1,1]]) ⟨[(4,.p 0 0),(5,.p 1 0),(6,.p 2 0),(7,.p 3 0),(9,.p 4 0),(10,.v (.int .i64 (IntKind.wrap IntKind.i64 ((n:Int)-1))))],[.cells [.v (.int .u64 (qB a 0:Nat)),.v (.int .u64 (qB a 1:Nat)),.v (.int .u64 (qB a 2:Nat)),.v (.int .u64 (qB a 3:Nat))] 53,.cells [.v (.int .u64 (qB b 0:Nat)),.v (.int .u64 (qB b 1:Nat)),.v (.int .u64 (qB b 2:Nat)),.v (.int .u64 (qB b 3:Nat))] 53,.cells [.v (.int .u64 0),.v (.int .u64 0),.v (.int .u64 0),.v (.int .u64 0)] 53,.cells [.v (.int .u64 (qB P 0:Nat)),.v (.int .u64 (qB P 1:Nat)),.v (.int .u64 (qB P 2:Nat)),.v (.int .u64 (qB P 3:Nat))] 53,.cells [.v (.int .u64 (qB o' 0:Nat)),.v (.int .u64 (qB o' 1:Nat)),.v (.int .u64 (qB o' 2:Nat)),.v (.int .u64 (qB o' 3:Nat))] 53]⟩:=fun o' ho'=>by
   rw[qAx _ (by omega)]
   exact qZa a b P ha hP Q hq n o' (by omega) ho'
  have hs:=zAx b n
  have hb2:b / 2^n%2=0∨b / 2^n%2=1:=by omega
  have hd:(2*o)%P=2*(b / 2^(n+1))*a%P:=by rw[ho,zFv]
  obtain⟨r1,r2⟩:=zLd P (2*o) (by omega)
  have h2o:zP o o=2*o:=by rw[zP]; omega
  have tdiv0:¬ IntKind.wrap IntKind.u64 (Int.tmod (↑n:Int) (64:Int))<(0:Int):=by
   rw[show Int.tmod (n:Int) 64=((n%64:Nat):Int) from rfl,wT _ (by omega)]; omega
  have tq:0≤IntKind.wrap IntKind.i64 (Int.tdiv (↑n:Int) (64:Int))∧IntKind.wrap IntKind.i64 (Int.tdiv (↑n:Int) (64:Int))<4:=by
   rw[show Int.tdiv (n:Int) 64=((n / 64:Nat):Int) from rfl,qKl _ (by omega)]; omega
  -- what comes behind the doubling
  have behind:∀ x:Nat,x<P→x=2*(b / 2^(n+1))*a%P→∀(A B:Prop),(b / 2^n%2=1→A)→(¬ b / 2^n%2=1→B)→bif decide (b / 2^n%2=1) then A else B:=fun x _ _ A B h1 h2=>by
   rw[qF]; exact qE h1 h2
  refine zJ o o (by omega) (by omega) (aI (zJ (zP o o) P (by omega) (by omega) ?_))
  rw[qN,qF]
  refine qE (fun hb=>?_) (fun hb=>?_)
  ·have hx:zP o o=2*(b / 2^(n+1))*a%P:=by rw[h2o,← hd,r1 (by omega)]
   have hxl:zP o o<P:=hb
   generalize zP o o=x at *
   refine aI (And.intro (fun _=>tq) (And.intro (fun _=>rfl) (aI (And.intro (fun _=>tdiv0) ?_))))
   rw[qF]
   refine qE (fun hbit=>?_) (fun hbit=>?_)
   ·have hi:(x+a)%P=b / 2^n*a%P:=by rw[hx,qZh,hs,hbit]
    obtain⟨s1,s2⟩:=zLd P (x+a) (by omega)
    refine zJ x a (by omega) (by omega) (aI (zJ (zP x a) P (by rw[zP]; omega) (by omega) ?_))
    rw[qN,qF]
    refine qE (fun hc=>?_) (fun hc=>?_)
    ·rw[zP] at hc ⊢
     exact next _ (by rw[← hi,s1 hc])
    ·rw[zP] at hc ⊢
     refine zJ (x+a) P (by omega) (by omega) (And.intro (fun _=>by omega) ?_)
     rw[(yN (x+a) P (by omega)).1,(yN (x+a) P (by omega)).2.1,(yN (x+a) P (by omega)).2.2.1,(yN (x+a) P (by omega)).2.2.2]
     exact next _ (by rw[← hi,s2 hc])
   ·exact next _ (by rw[hs,show b / 2^n%2=0 by omega,Nat.add_zero]; exact hx)
  ·have hx:zP o o-P=2*(b / 2^(n+1))*a%P:=by rw[h2o,← hd,r2 (by omega)]
   have hle:P≤zP o o:=by omega
   have hxl:zP o o-P<P:=by omega
   have hw:=yN (zP o o) P hle
   refine zJ (zP o o) P (by omega) (by omega) (aI (aI (And.intro (fun _=>tq) (And.intro (fun _=>rfl) (aI (And.intro (fun _=>tdiv0) ?_))))))
   rw[qRv _ _ hle,hw.1,hw.2.1,hw.2.2.1,hw.2.2.2]
   generalize zP o o-P=x at *
   rw[qF]
   refine qE (fun hbit=>?_) (fun hbit=>?_)
   ·have hi:(x+a)%P=b / 2^n*a%P:=by rw[hx,qZh,hs,hbit]
    obtain⟨s1,s2⟩:=zLd P (x+a) (by omega)
    refine zJ x a (by omega) (by omega) (aI (zJ (zP x a) P (by rw[zP]; omega) (by omega) ?_))
    rw[qN,qF]
    refine qE (fun hc=>?_) (fun hc=>?_)
    ·rw[zP] at hc ⊢
     exact next _ (by rw[← hi,s1 hc])
    ·rw[zP] at hc ⊢
     refine zJ (x+a) P (by omega) (by omega) (And.intro (fun _=>by omega) ?_)
     rw[(yN (x+a) P (by omega)).1,(yN (x+a) P (by omega)).2.1,(yN (x+a) P (by omega)).2.2.1,(yN (x+a) P (by omega)).2.2.2]
     exact next _ (by rw[← hi,s2 hc])
   ·exact next _ (by rw[hs,show b / 2^n%2=0 by omega,Nat.add_zero]; exact hx)
theorem bRM:Tryz.f127.body.isSome=true:=by kernel_rfl
theorem nRM(s:Int)(a b:Nat):Nat.ble [SV.v (.int .i64 s),eS a,eS b].length Tryz.f127.ntmps=true:=by kernel_rfl
theorem zHo(b:Nat)(hb:b<top):b / 2^256=0:=Nat.div_eq_of_lt hb
theorem zSr(s:Int)(a b:Nat)(ha:a<top)(hb:b<top)(Q:SV→List HO→Prop)(hq:Q (eS (fMu s a b)) []):qI Tryz.prog 127 [.v (.int .i64 s),eS a,eS b] [] Q:=by
 have hl:=qRl s
 have lit:s=0∨s=1→Q (SV.agg [SV.v (qC (Int.tmod (IntKind.wrap IntKind.u64 ((↑(qB (fO s a) 0):Int)*(↑(qB (fO s b) 0):Int))) (↑(zV s):Int))),SV.v (qC (0:Int)),SV.v (qC (0:Int)),SV.v (qC (0:Int))]) []:=fun h=>by
  have e:=qKd h
  rw[fMu,if_neg (by omega),← e,← qPf (by omega) hl.2] at hq
  rw[fO,if_neg (by omega),fO,if_neg (by omega),← e]
  exact hq
 refine qJ Tryz.func127 bRM ?_ ?_
 ·exact nRM s a b
 refine qD hm 60 ((rMS s a b _ _).mpr ⟨?_⟩)
 simp only[qT,qN]
 refine qE (fun h=>?_) (fun h0=>qE (fun h=>?_) (fun h1=>?_))
 ·exact jP a ha (aI (jP b hb (aI (aI (aI (lit (.inl h)))))))
 ·exact jP a ha (aI (jP b hb (aI (aI (aI (lit (.inr h)))))))
 ·refine And.intro (fun _=>by omega) ?_
  rcases qGe s with h | h
  ·rw[if_neg (by rw[zEl s h]; omega)]
   rw[fMu,if_pos h,xM] at hq
   exact And.intro (fun _=>by omega) hq
  ·rw[if_pos ((qBm s).2 (by omega))]
   refine jP a ha (aI (jP b hb (aI (And.intro (fun _=>by omega) ?_))))
   have la:=qFw (fP s) a (by omega)
   have ha':fO s a<fP s:=by rw[fO,if_neg (by omega)]; exact la
   have e:fO s b*fO s a%fP s=fMu s a b:=by
    rw[fO,if_neg (by omega),fO,if_neg (by omega),fMu,if_neg (by omega),qKv,jJ,jJ,← Nat.mul_mod,Nat.mul_comm]
   rw[← e] at hq
   have:=qZa (fO s a) (fO s b) (fP s) ha' h.2 Q hq 256 0 (by omega) (by rw[zHo _ (qKy s b),Nat.zero_mul,Nat.zero_mod])
   simp only[xG] at this
   exact FOk.loop 257 (by kernel_rfl) this
noncomputable def gRM:List SV→List HO→Option ((SV→List HO→Prop)→Prop)
 | [.v (.int .i64 s),.agg [.v (.int .u64 a0),.v (.int .u64 a1),.v (.int .u64 a2),.v (.int .u64 a3)],.agg [.v (.int .u64 b0),.v (.int .u64 b1),.v (.int .u64 b2),.v (.int .u64 b3)]],[]=>some fun Q=>c2C [a0,a1,a2,a3] [b0,b1,b2,b3] fun a b=>Q (eS (fMu s a b)) []
 | _,_=>none
theorem zLb(args:List SV)(h:List HO)(tr:(SV→List HO→Prop)→Prop)(Q:SV→List HO→Prop)(hc:gRM args h=some tr)(ht:tr Q):qI Tryz.prog 127 args h Q:=by
 unfold gRM at hc
 split at hc
 ·rename_i s a0 a1 a2 a3 b0 b1 b2 b3
  simp only[sI] at hc
  subst hc
  obtain⟨a,b,e1,e2,ha,hb,hq⟩:=ht.h
  simp only[List.cons.injEq,and_true] at e1 e2
  obtain⟨rfl,rfl,rfl,rfl⟩:=e1
  obtain⟨rfl,rfl,rfl,rfl⟩:=e2
  exact zSr s a b ha hb Q hq
 ·cases hc
noncomputable def K41:Con Tryz.prog:=((K40.add 126 gRA zJs).add 125 gRN zPo).add 127 gRM zLb
end Go.Proofs.YtlmjdcbhpffanaaGreat
/- ExprLinear: the walk. -/
namespace Go.Pl
open Go.Sx
noncomputable abbrev eC (a : Nat) : List qG := [.v (.int .u64 (qB a 0 : Nat)), .v (.int .u64 (qB a 1 : Nat)), .v (.int .u64 (qB a 2 : Nat)), .v (.int .u64 (qB a 3 : Nat))]
end Go.Pl
namespace Go.Proofs.YtlmjdcbhpffanaaGreat
open Go.Sx Go.Pl
set_option linter.unusedVariables false
set_option maxRecDepth 100000
theorem zHc(s:Int)(qs:List Qy)(vs:List Nat)(l:List Nd):∀ v∈(vlR s qs vs l).1,v<top:=by
 have gen:∀(l:List Nd) (pre out:List Nat),(∀ v∈pre,v<top)→yA s qs vs pre l=some out→∀ v∈out,v<top:=by
  intro l
  induction l with
  | nil=>intro pre out hp h; simp only[yA,sI] at h; subst h; exact hp
  | cons x t ih =>
   intro pre out hp h
   rw[yA] at h
   split at h
   ·cases h
   ·refine ih _ out (fun v hv=>?_) h
    rcases List.mem_append.1 hv with hv | hv
    ·exact hp v hv
    ·rw[List.mem_singleton] at hv; rw[hv]; exact qJr _ _ _
 unfold vlR
 split
 ·intro v hv; cases hv
 ·split
  ·intro v hv; cases hv
  ·split
   ·intro v hv; cases hv
   ·split
    ·intro v hv; cases hv
    ·rename_i out h; exact gen l [] out (fun v hv=>by cases hv) h
end Go.Proofs.YtlmjdcbhpffanaaGreat
/- The document's values of nodes. -/
namespace Go.Pl
open Go.Sx
theorem qIq(s:Int)(a:Nat):fO s a=fAd s a 0:=by
 rw[fO,fAd]
 split
 ·rfl
 ·rw[jJ,qFo,Nat.add_zero]
theorem zOx(s:Int)(a b:Nat):fAd s (fAd s a b) 0=fAd s a b:=by
 unfold fAd
 split
 ·rfl
 ·rw[qFo,qFo,Nat.add_zero,Nat.mod_mod]
theorem zOj(s:Int)(a:Nat):fAd s (fNg s a) 0=fNg s a:=by
 unfold fAd fNg
 split
 ·rfl
 ·rw[qFo,qTj,Nat.add_zero,Nat.mod_mod]
theorem zDq(s:Int)(a b:Nat):fAd s (fMu s a b) 0=fMu s a b:=by
 unfold fAd fMu
 split
 ·rfl
 ·rw[qFo,qKv,Nat.add_zero,Nat.mod_mod]
theorem zMb(s:Int)(a b:Nat):fMu s (fO s a) b=fMu s a b:=by
 unfold fMu fO
 split
 ·rfl
 ·rw[qKv,qKv,jJ,Nat.mod_mul_mod]
theorem qSg(s:Int):fP s=0↔s<0∨3<s:=by
 unfold fP
 constructor
 ·intro h
  repeat' split at h
  all_goals omega
 ·intro h
  rw[if_neg (by omega),if_neg (by omega),if_neg (by omega),if_neg (by omega)]
end Go.Pl
namespace Go.Proofs.YtlmjdcbhpffanaaGreat
open Go.Sx Go.Pl
set_option linter.unusedVariables false
set_option maxRecDepth 100000
theorem ryS(s:Int)(b1 b2 b3:Bool)(l:List Nd)(qs:List (Int×Int×Int))(vs:List Nat)(K:List It→St→Prop)(R:SV→List HO→Prop):W (xwp Tryz.prog X K41 [] 60 (qK Tryz.f92 [] [⟨[0,1,0,1,1,1,1,1],[0,1,2,3,10,11],[]⟩]) [] [.at []] ⟨qR 0 [.v (.int .i64 s),.x 0 [],.x 1 [],.x 2 []],[.ext b1 (.s false 7 l.length (cN l)),.ext b2 (.s false 3 qs.length (cQ qs)),.ext b3 (.s false 4 vs.length (cE vs))]⟩ K R)=W (bif decide (s<(0:Int)) then R (.tup [.v (Value.slice none 0 0),.v (qA 20)]) [] else bif decide ((3:Int)<s) then R (.tup [.v (Value.slice none 0 0),.v (qA 20)]) [] else ∃(l_1:List Nd),List.length l=List.length l_1∧IsC l.length 7 (cN l) (cN l_1)∧List.length l_1≤4000000000000∧bif !zK 0 l_1 then R (.tup [.v (Value.slice none 0 0),.v (qA 110)]) [] else bif !(↑vs.length:Int)==(↑qs.length:Int) then R (.tup [.v (Value.slice none 0 0),.v (qA 50)]) [] else K [.at [0,1,0,1,1,1,1,1],.blk 0,.at [1,1,1,1,1,1]] (St.mk [(0,.v (qA s)),(1,.x 0 []),(2,.x 1 []),(3,.x 2 []),(10,.o 3),(11,.v (qA 0))] [.ext b1 (.s false 7 l.length (cN l)),.ext b2 (.s false 3 qs.length (cQ qs)),.ext b3 (.s false 4 vs.length (cE vs)),.rowc 53 4 0 (.lit 4 [])])):=by kernel_rfl
theorem ryL(s:Int)(b1 b2 b3:Bool)(l:List Nd)(qs:List (Int×Int×Int))(vs out:List Nat)(n nq nv k M:Nat)(K:List It→St→Prop)(R:SV→List HO→Prop):W (xwp Tryz.prog X K41 [] 60 (qK Tryz.f92 [] [⟨[0,1,0,1,1,1,1,1],[0,1,2,3,10,11],[]⟩]) [] (.at [0,0,1,0,1,1,1,1,1]::.rnd [0,0,1,0,1,1,1,1,1] M::[.blk 0,.at [1,1,1,1,1,1]]) ⟨[(0,.v (.int .i64 s)),(1,.x 0 []),(2,.x 1 []),(3,.x 2 []),(10,.o 3),(11,.v (.int .i64 (k:Int)))],[.ext b1 (.s false 7 n (cN l)),.ext b2 (.s false 3 nq (cQ qs)),.ext b3 (.s false 4 nv (cE vs)),.rowc 53 4 k (.fn (cE out))]⟩ K R)=W (bif decide ((↑k:Int)<(↑n:Int)) then(∀ M:Mem,(0:Int)≤(↑k:Int)∧(↑k:Int)<(↑n:Int))∧(∀ M:Mem,k<n)∧(∀ M:Mem,0+7≤7)∧c1C (eI (gN l k).4) fun(a:Nat)=>(∀ M:Mem,0+4≤4)∧bif(gN l k).1==(2:Int) then ∃(l_1:List (Int×Int×Int)),nq=List.length l_1∧IsC nq 3 (cQ qs) (cQ l_1)∧List.length l_1≤4398046511104∧bif decide (zA (zE (gN l k).1 (gN l k).2 (gN l k).3) 0 l_1<(0:Int)) then R (.tup [.v (Value.slice none 0 0),.v (qA 50)]) [] else(∀ M:Mem,(0:Int)≤zA (zE (gN l k).1 (gN l k).2 (gN l k).3) 0 l_1∧zA (zE (gN l k).1 (gN l k).2 (gN l k).3) 0 l_1<(↑nv:Int))∧(∀ M:Mem,Int.toNat (zA (zE (gN l k).1 (gN l k).2 (gN l k).3) 0 l_1)<nv)∧c1C (eI (gE vs (Int.toNat (zA (zE (gN l k).1 (gN l k).2 (gN l k).3) 0 l_1)))) fun(a:Nat)=>(∀ M:Mem,0+4≤4)∧(∀ M:Mem,(k+1)*32≤140737488355328∧k+1≤140737488355328)∧K [.rnd [0,0,1,0,1,1,1,1,1] M,.blk 0,.at [1,1,1,1,1,1]] (St.mk [(0,.v (qA s)),(1,.x 0 []),(2,.x 1 []),(3,.x 2 []),(10,.o 3),(11,.v (qA (IntKind.wrap .i64 ((↑k:Int)+(1:Int)))))] [.ext b1 (.s false 7 n (cN l)),.ext b2 (.s false 3 nq (cQ qs)),.ext b3 (.s false 4 nv (cE vs)),.rowc 53 4 (k+1) (.app k (.fn (cE out)) (.lit 4 [.v (qC (↑(qB (fO s a) 0):Int)),.v (qC (↑(qB (fO s a) 1):Int)),.v (qC (↑(qB (fO s a) 2):Int)),.v (qC (↑(qB (fO s a) 3):Int))]))]) else bif(gN l k).1==(3:Int) then ∃(l_1:List (Int×Int×Int)),nq=List.length l_1∧IsC nq 3 (cQ qs) (cQ l_1)∧List.length l_1≤4398046511104∧bif decide (zA (zE (gN l k).1 (gN l k).2 (gN l k).3) 0 l_1<(0:Int)) then R (.tup [.v (Value.slice none 0 0),.v (qA 50)]) [] else(∀ M:Mem,(0:Int)≤zA (zE (gN l k).1 (gN l k).2 (gN l k).3) 0 l_1∧zA (zE (gN l k).1 (gN l k).2 (gN l k).3) 0 l_1<(↑nv:Int))∧(∀ M:Mem,Int.toNat (zA (zE (gN l k).1 (gN l k).2 (gN l k).3) 0 l_1)<nv)∧c1C (eI (gE vs (Int.toNat (zA (zE (gN l k).1 (gN l k).2 (gN l k).3) 0 l_1)))) fun(a:Nat)=>(∀ M:Mem,0+4≤4)∧(∀ M:Mem,(k+1)*32≤140737488355328∧k+1≤140737488355328)∧K [.rnd [0,0,1,0,1,1,1,1,1] M,.blk 0,.at [1,1,1,1,1,1]] (St.mk [(0,.v (qA s)),(1,.x 0 []),(2,.x 1 []),(3,.x 2 []),(10,.o 3),(11,.v (qA (IntKind.wrap .i64 ((↑k:Int)+(1:Int)))))] [.ext b1 (.s false 7 n (cN l)),.ext b2 (.s false 3 nq (cQ qs)),.ext b3 (.s false 4 nv (cE vs)),.rowc 53 4 (k+1) (.app k (.fn (cE out)) (.lit 4 [.v (qC (↑(qB (fO s a) 0):Int)),.v (qC (↑(qB (fO s a) 1):Int)),.v (qC (↑(qB (fO s a) 2):Int)),.v (qC (↑(qB (fO s a) 3):Int))]))]) else bif(gN l k).1==(4:Int) then ∃(l_1:List (Int×Int×Int)),nq=List.length l_1∧IsC nq 3 (cQ qs) (cQ l_1)∧List.length l_1≤4398046511104∧bif decide (zA (zE (gN l k).1 (gN l k).2 (gN l k).3) 0 l_1<(0:Int)) then R (.tup [.v (Value.slice none 0 0),.v (qA 50)]) [] else(∀ M:Mem,(0:Int)≤zA (zE (gN l k).1 (gN l k).2 (gN l k).3) 0 l_1∧zA (zE (gN l k).1 (gN l k).2 (gN l k).3) 0 l_1<(↑nv:Int))∧(∀ M:Mem,Int.toNat (zA (zE (gN l k).1 (gN l k).2 (gN l k).3) 0 l_1)<nv)∧c1C (eI (gE vs (Int.toNat (zA (zE (gN l k).1 (gN l k).2 (gN l k).3) 0 l_1)))) fun(a:Nat)=>(∀ M:Mem,0+4≤4)∧(∀ M:Mem,(k+1)*32≤140737488355328∧k+1≤140737488355328)∧K [.rnd [0,0,1,0,1,1,1,1,1] M,.blk 0,.at [1,1,1,1,1,1]] (St.mk [(0,.v (qA s)),(1,.x 0 []),(2,.x 1 []),(3,.x 2 []),(10,.o 3),(11,.v (qA (IntKind.wrap .i64 ((↑k:Int)+(1:Int)))))] [.ext b1 (.s false 7 n (cN l)),.ext b2 (.s false 3 nq (cQ qs)),.ext b3 (.s false 4 nv (cE vs)),.rowc 53 4 (k+1) (.app k (.fn (cE out)) (.lit 4 [.v (qC (↑(qB (fO s a) 0):Int)),.v (qC (↑(qB (fO s a) 1):Int)),.v (qC (↑(qB (fO s a) 2):Int)),.v (qC (↑(qB (fO s a) 3):Int))]))]) else bif(gN l k).1==(5:Int) then(∀ M:Mem,(0:Int)≤(gN l k).2∧(gN l k).2<(↑k:Int))∧(∀ M:Mem,Int.toNat (gN l k).2<k)∧c1C (eI (gE out (Int.toNat (gN l k).2))) fun(a:Nat)=>(∀ M:Mem,0+4≤4)∧(∀ M:Mem,(k+1)*32≤140737488355328∧k+1≤140737488355328)∧K [.rnd [0,0,1,0,1,1,1,1,1] M,.blk 0,.at [1,1,1,1,1,1]] (St.mk [(0,.v (qA s)),(1,.x 0 []),(2,.x 1 []),(3,.x 2 []),(10,.o 3),(11,.v (qA (IntKind.wrap .i64 ((↑k:Int)+(1:Int)))))] [.ext b1 (.s false 7 n (cN l)),.ext b2 (.s false 3 nq (cQ qs)),.ext b3 (.s false 4 nv (cE vs)),.rowc 53 4 (k+1) (.app k (.fn (cE out)) (.lit 4 [.v (qC (↑(qB (fNg s a) 0):Int)),.v (qC (↑(qB (fNg s a) 1):Int)),.v (qC (↑(qB (fNg s a) 2):Int)),.v (qC (↑(qB (fNg s a) 3):Int))]))]) else bif(gN l k).1==(6:Int) then(∀ M:Mem,(0:Int)≤(gN l k).2∧(gN l k).2<(↑k:Int))∧(∀ M:Mem,Int.toNat (gN l k).2<k)∧(∀ M:Mem,(0:Int)≤(gN l k).3∧(gN l k).3<(↑k:Int))∧(∀ M:Mem,Int.toNat (gN l k).3<k)∧c2C (eI (gE out (Int.toNat (gN l k).2))) (eI (gE out (Int.toNat (gN l k).3))) fun(a b:Nat)=>(∀ M:Mem,0+4≤4)∧(∀ M:Mem,(k+1)*32≤140737488355328∧k+1≤140737488355328)∧K [.rnd [0,0,1,0,1,1,1,1,1] M,.blk 0,.at [1,1,1,1,1,1]] (St.mk [(0,.v (qA s)),(1,.x 0 []),(2,.x 1 []),(3,.x 2 []),(10,.o 3),(11,.v (qA (IntKind.wrap .i64 ((↑k:Int)+(1:Int)))))] [.ext b1 (.s false 7 n (cN l)),.ext b2 (.s false 3 nq (cQ qs)),.ext b3 (.s false 4 nv (cE vs)),.rowc 53 4 (k+1) (.app k (.fn (cE out)) (.lit 4 [.v (qC (↑(qB (fAd s a b) 0):Int)),.v (qC (↑(qB (fAd s a b) 1):Int)),.v (qC (↑(qB (fAd s a b) 2):Int)),.v (qC (↑(qB (fAd s a b) 3):Int))]))]) else bif(gN l k).1==(7:Int) then(∀ M:Mem,(0:Int)≤(gN l k).2∧(gN l k).2<(↑k:Int))∧(∀ M:Mem,Int.toNat (gN l k).2<k)∧(∀ M:Mem,(0:Int)≤(gN l k).3∧(gN l k).3<(↑k:Int))∧(∀ M:Mem,Int.toNat (gN l k).3<k)∧c2C (eI (gE out (Int.toNat (gN l k).2))) (eI (gE out (Int.toNat (gN l k).3))) fun(a b:Nat)=>(∀ M:Mem,0+4≤4)∧(∀ M:Mem,(k+1)*32≤140737488355328∧k+1≤140737488355328)∧K [.rnd [0,0,1,0,1,1,1,1,1] M,.blk 0,.at [1,1,1,1,1,1]] (St.mk [(0,.v (qA s)),(1,.x 0 []),(2,.x 1 []),(3,.x 2 []),(10,.o 3),(11,.v (qA (IntKind.wrap .i64 ((↑k:Int)+(1:Int)))))] [.ext b1 (.s false 7 n (cN l)),.ext b2 (.s false 3 nq (cQ qs)),.ext b3 (.s false 4 nv (cE vs)),.rowc 53 4 (k+1) (.app k (.fn (cE out)) (.lit 4 [.v (qC (↑(qB (fMu s a b) 0):Int)),.v (qC (↑(qB (fMu s a b) 1):Int)),.v (qC (↑(qB (fMu s a b) 2):Int)),.v (qC (↑(qB (fMu s a b) 3):Int))]))]) else bif(gN l k).1==(8:Int) then(∀ M:Mem,(0:Int)≤(gN l k).2∧(gN l k).2<(↑k:Int))∧(∀ M:Mem,Int.toNat (gN l k).2<k)∧c2C (eI (fO s a)) (eI (gE out (Int.toNat (gN l k).2))) fun(a b:Nat)=>(∀ M:Mem,0+4≤4)∧(∀ M:Mem,(k+1)*32≤140737488355328∧k+1≤140737488355328)∧K [.rnd [0,0,1,0,1,1,1,1,1] M,.blk 0,.at [1,1,1,1,1,1]] (St.mk [(0,.v (qA s)),(1,.x 0 []),(2,.x 1 []),(3,.x 2 []),(10,.o 3),(11,.v (qA (IntKind.wrap .i64 ((↑k:Int)+(1:Int)))))] [.ext b1 (.s false 7 n (cN l)),.ext b2 (.s false 3 nq (cQ qs)),.ext b3 (.s false 4 nv (cE vs)),.rowc 53 4 (k+1) (.app k (.fn (cE out)) (.lit 4 [.v (qC (↑(qB (fMu s a b) 0):Int)),.v (qC (↑(qB (fMu s a b) 1):Int)),.v (qC (↑(qB (fMu s a b) 2):Int)),.v (qC (↑(qB (fMu s a b) 3):Int))]))]) else(∀ M:Mem,(k+1)*32≤140737488355328∧k+1≤140737488355328)∧K [.rnd [0,0,1,0,1,1,1,1,1] M,.blk 0,.at [1,1,1,1,1,1]] (St.mk [(0,.v (qA s)),(1,.x 0 []),(2,.x 1 []),(3,.x 2 []),(10,.o 3),(11,.v (qA (IntKind.wrap .i64 ((↑k:Int)+(1:Int)))))] [.ext b1 (.s false 7 n (cN l)),.ext b2 (.s false 3 nq (cQ qs)),.ext b3 (.s false 4 nv (cE vs)),.rowc 53 4 (k+1) (.app k (.fn (cE out)) (.lit 4 [.v (qC (↑(qB (fO s a) 0):Int)),.v (qC (↑(qB (fO s a) 1):Int)),.v (qC (↑(qB (fO s a) 2):Int)),.v (qC (↑(qB (fO s a) 3):Int))]))]) else R (.tup [.o 0,.v (qA 0)]) [.rowc 53 4 k (.fn (cE out))]):=by kernel_rfl
theorem qYd(s:Int)(b1 b2 b3:Bool)(all:List Nd)(qs:List (Int×Int×Int))(vs:List Nat)(hb:all.length≤4000000000000)(hbq:qs.length≤4398046511104)(ho:zK 0 all=true)(hl:vs.length=qs.length)(ht:∀ x∈all,x.v<top)(hv:∀ v∈vs,v<top)(Q:SV→List HO→Prop)(hq:∀ out,yA s qs vs [] all=some out→Q (.tup [.o 0,.v (.int .i64 0)]) [.rowc 53 4 out.length (.fn (cE out))])(hn:yA s qs vs [] all=none→Q (.tup [.v (.slice none 0 0),.v (.int .i64 50)]) []):
  ∀(d k:Nat) (out:List Nat),k+d=all.length→out.length=k→(∀ z∈out,z<top)→yA s qs vs [] all=yA s qs vs out (all.drop k) →
  FOk Tryz.prog Tryz.f92 Q (.rnd [0,0,1,0,1,1,1,1,1] (d+1)::[.blk 0,.at [1,1,1,1,1,1]]) ⟨[(0,.v (.int .i64 s)),(1,.x 0 []),(2,.x 1 []),(3,.x 2 []),(10,.o 3),(11,.v (.int .i64 (k:Int)))],[.ext b1 (.s false 7 all.length (cN all)),.ext b2 (.s false 3 qs.length (cQ qs)),.ext b3 (.s false 4 vs.length (cE vs)),.rowc 53 4 k (.fn (cE out))]⟩
 | 0,k,out,hd,hk,hz,he=>by
  refine FOk.rnd (qD hm 60 ((ryL s b1 b2 b3 all qs vs out all.length qs.length vs.length k 0 _ _).mpr ⟨?_⟩))
  rw[qF,if_neg (by omega)]
  rw[show k=all.length by omega,List.drop_length,yA] at he
  have:=hq out he
  rw[hk] at this
  exact this
 | d+1,k,out,hd,hk,hz,he=>by
  have hka:k<all.length:=by omega
  rw[qBe hka] at he
  have hop:=wP all 0 ho _ (qCd hka)
  have hus:=qBv k (gN all k)
  have hok:okN k (gN all k)=true:=qAs ho k (gN all k) (by rw[gN,List.getD_eq_getElem?_getD,List.getElem?_eq_getElem hka]; rfl)
  rw[hok] at hus
  have hus:=hus.1 rfl
  have yes:∀ z w,qAz s qs vs out (gN all k)=some z→w=fAd s z 0→FOk Tryz.prog Tryz.f92 Q (.rnd [0,0,1,0,1,1,1,1,1] (d+1)::[.blk 0,.at [1,1,1,1,1,1]]) ⟨[(0,.v (.int .i64 s)),(1,.x 0 []),(2,.x 1 []),(3,.x 2 []),(10,.o 3),(11,.v (.int .i64 (IntKind.wrap .i64 ((k:Int)+1))))],[.ext b1 (.s false 7 all.length (cN all)),.ext b2 (.s false 3 qs.length (cQ qs)),.ext b3 (.s false 4 vs.length (cE vs)),.rowc 53 4 (k+1) (.app k (.fn (cE out)) (.lit 4 (eC w)))]⟩:=fun z w hz' hw=>by
   rw[qL _ (by omega),hw]
   rw[xP hz'] at he
   refine FOk.cv (qYd s b1 b2 b3 all qs vs hb hbq ho hl ht hv Q hq hn d (k+1) (out++[fAd s z 0]) (by omega) (by simp [hk]) (fun y hy=>?_) he) ⟨HE.refl _,HE.refl _,HE.refl _,⟨rfl,rfl,rfl,qJz _ hk⟩,trivial⟩
   rcases List.mem_append.1 hy with h | h
   ·exact hz y h
   ·rw[List.mem_singleton] at h; rw[h]; exact qJr s z 0
  have qcase:2≤(gN all k).op∧(gN all k).op≤4→∀ Z:Prop,(∀ i:Int,0≤i→i<(vs.length:Int)→qAz s qs vs out (gN all k)=some (gE vs i.toNat)→i=zA (zE (gN all k).op (gN all k).a (gN all k).b) 0 qs→Z)→if zA (zE (gN all k).op (gN all k).a (gN all k).b) 0 qs<0 then Q (.tup [.v (.slice none 0 0),.v (.int .i64 50)]) [] else Z:=fun h Z hZ=>by
   have hD:=qKq s qs vs out h
   have hlt:=qPu (zE (gN all k).op (gN all k).a (gN all k).b) qs 0
   refine qE (fun hi=>?_) (fun hi=>?_)
   ·rw[if_pos hi] at hD
    rw[qLc hD] at he
    exact hn he
   ·rw[if_neg hi] at hD
    exact hZ _ (by omega) (by omega) hD rfl
  refine FOk.rnd (qD hm 60 ((ryL s b1 b2 b3 all qs vs out all.length qs.length vs.length k (d+1) _ _).mpr ⟨?_⟩))
  simp only[qF,qT]
  rw[if_pos (by omega)]
  refine aI (aI (aI (jP _ (qVw ht k) (And.intro (fun _=>by omega) ?_))))
  refine qE (fun h=>?_) (fun h2=>qE (fun h=>?_) (fun h3=>qE (fun h=>?_) (fun h4=>qE (fun h=>?_) (fun h5=>qE (fun h=>?_) (fun h6=>qE (fun h=>?_) (fun h7=>qE (fun h=>?_) (fun h8=>?_)))))))
  ·refine⟨qs,rfl,IsC.refl _ _ _,hbq,qcase (by omega) _ fun i i0 i1 hD hi=>?_⟩
   rw[← hi]
   refine aI (aI (jP _ (yK hv _) ?_))
   exact aI (aI (yes _ _ hD (qIq s _)))
  ·refine⟨qs,rfl,IsC.refl _ _ _,hbq,qcase (by omega) _ fun i i0 i1 hD hi=>?_⟩
   rw[← hi]
   refine aI (aI (jP _ (yK hv _) ?_))
   exact aI (aI (yes _ _ hD (qIq s _)))
  ·refine⟨qs,rfl,IsC.refl _ _ _,hbq,qcase (by omega) _ fun i i0 i1 hD hi=>?_⟩
   rw[← hi]
   refine aI (aI (jP _ (yK hv _) ?_))
   exact aI (aI (yes _ _ hD (qIq s _)))
  ·refine aI (aI (jP _ (yK hz _) ?_))
   exact aI (aI (yes _ _ (qQn s qs vs out h) (zOj s _).symm))
  ·refine aI (aI (aI (aI (zJ _ _ (yK hz _) (yK hz _) ?_))))
   exact aI (aI (yes _ _ (qQx s qs vs out h) (zOx s _ _).symm))
  ·refine aI (aI (aI (aI (zJ _ _ (yK hz _) (yK hz _) ?_))))
   exact aI (aI (yes _ _ (qWk s qs vs out h) (zDq s _ _).symm))
  ·refine aI (aI (zJ _ _ (qKy s _) (yK hz _) ?_))
   exact aI (aI (yes _ _ (qWr s qs vs out h) ((zMb s _ _).trans (zDq s _ _).symm)))
  ·exact aI (yes _ _ (qWu s qs vs out (by omega)) (qIq s _))
theorem bRy:Tryz.f92.body.isSome=true:=by kernel_rfl
theorem nRy(s:Int):Nat.ble [SV.v (.int .i64 s),.x 0 [],.x 1 [],.x 2 []].length Tryz.f92.ntmps=true:=by kernel_rfl
theorem qVp(s:Int)(b1 b2 b3:Bool)(l:List Nd)(qs:List (Int×Int×Int))(vs:List Nat)(hb:l.length≤4000000000000)(hbq:qs.length≤4398046511104)(ht:∀ x∈l,x.v<top)(hv:∀ v∈vs,v<top)(Q:SV→List HO→Prop)(hq:Q (.tup [.o 0,.v (.int .i64 (vlR s qs vs l).2)]) [.rowc 53 4 (vlR s qs vs l).1.length (.fn (cE (vlR s qs vs l).1))]):qI Tryz.prog 92 [.v (.int .i64 s),.x 0 [],.x 1 [],.x 2 []] [.ext b1 (.s false 7 l.length (cN l)),.ext b2 (.s false 3 qs.length (cQ qs)),.ext b3 (.s false 4 vs.length (cE vs))] Q:=by
 refine qI.mono (qI.eqv (r0:=.tup [.o 0,.v (.int .i64 (vlR s qs vs l).2)]) (h0:=[.rowc 53 4 (vlR s qs vs l).1.length (.fn (cE (vlR s qs vs l).1))]) ?_) (fun r h' hh=>by rw[hh.1,hh.2]; exact hq)
 refine qI.nilT 53 4 (qJ Tryz.func92 bRy ?_ ?_)
 ·exact nRy s
 refine qD hm 60 ((ryS s b1 b2 b3 l qs vs _ _).mpr ⟨?_⟩)
 have bad:∀ e:Int,vlR s qs vs l=([],e)→(fun r h'=>(r=SV.tup [.o 0,.v (.int .i64 (vlR s qs vs l).2)]∧HEs h' [.rowc 53 4 (vlR s qs vs l).1.length (.fn (cE (vlR s qs vs l).1))])∨(∃ y,r=.tup [.v (.slice none 0 0),.v y]∧h'=[]∧(SV.tup [.o 0,.v y]=SV.tup [.o 0,.v (.int .i64 (vlR s qs vs l).2)]∧HEs [HO.rowc 53 4 0 (.lit 1 [])] [.rowc 53 4 (vlR s qs vs l).1.length (.fn (cE (vlR s qs vs l).1))]))) (SV.tup [SV.v (Value.slice none 0 0),SV.v (qA e)]) []:=fun e he=>by
  rw[he]
  exact .inr ⟨_,rfl,rfl,rfl,⟨rfl,rfl,rfl,fun k hk=>by omega⟩,trivial⟩
 rw[qF]
 refine qE (fun h0=>bad 20 (by rw[vlR,if_pos ((qSg s).2 (.inl h0))])) (fun h0=>?_)
 rw[qF]
 refine qE (fun h1=>bad 20 (by rw[vlR,if_pos ((qSg s).2 (.inr h1))])) (fun h1=>?_)
 have hs:fP s≠0:=fun h=>by rcases(qSg s).1 h with h | h <;> omega
 refine⟨l,rfl,IsC.refl _ _ _,hb,?_⟩
 rw[qN]
 refine qM (fun ho=>?_) (fun ho=>?_)
 ·rw[qN,qT]
  refine qE (fun hl=>?_) (fun hl=>?_)
  ·have hl:vs.length=qs.length:=by omega
   refine FOk.loop (l.length+1) (by kernel_rfl) (FOk.cv (qYd s b1 b2 b3 l qs vs hb hbq ho hl ht hv _ (fun out hout=>?_) (fun hnone=>?_) l.length 0 [] (by omega) rfl (by simp) rfl) ⟨HE.refl _,HE.refl _,HE.refl _,⟨rfl,rfl,rfl,fun k hk=>by omega⟩,trivial⟩)
   ·have e:vlR s qs vs l=(out,0):=by rw[vlR,if_neg hs,if_neg (by rw[ho]; simp),if_neg (by omega),hout]
    rw[e]
    exact .inl ⟨rfl,HEs.refl _⟩
   ·exact bad 50 (by rw[vlR,if_neg hs,if_neg (by rw[ho]; simp),if_neg (by omega),hnone])
  ·exact bad 50 (by rw[vlR,if_neg hs,if_neg (by rw[ho]; simp),if_pos (by omega)])
 ·exact bad 110 (by rw[vlR,if_neg hs,if_pos ho])
noncomputable def gRy:List SV→List HO→Option ((SV→List HO→Prop)→Prop)
 | [.v (.int .i64 s),.x 0 [],.x 1 [],.x 2 []],[.ext _ (.s false 7 n cn),.ext _ (.s false 3 nq cq),.ext _ (.s false 4 nv cv)]=>some fun Q=>vlC n nq nv cn cq cv fun l qs vs=>l.length≤4000000000000∧Q (.tup [.o 0,.v (.int .i64 (vlR s qs vs l).2)]) [.rowc 53 4 (vlR s qs vs l).1.length (.fn (cE (vlR s qs vs l).1))]
 | _,_=>none
theorem zLv(args:List SV)(h:List HO)(tr:(SV→List HO→Prop)→Prop)(Q:SV→List HO→Prop)(hc:gRy args h=some tr)(ht:tr Q):qI Tryz.prog 92 args h Q:=by
 unfold gRy at hc
 split at hc
 ·rename_i s b1 n cn b2 nq cq b3 nv cv
  simp only[sI] at hc
  subst hc
  obtain⟨l,qs,vs,rfl,h1,rfl,h2,rfl,h3,hb,hbq,hx,hv,hb2,hq⟩:=ht.h
  exact qI.ac (qVp s b1 b2 b3 l qs vs hb2 hbq hx hv Q hq) ⟨⟨rfl,rfl,rfl,rfl,h1⟩,⟨rfl,rfl,rfl,rfl,h2⟩,⟨rfl,rfl,rfl,rfl,h3⟩,trivial⟩
 ·cases hc
end Go.Proofs.YtlmjdcbhpffanaaGreat
/- The document's field and values beside. -/
namespace Go.Proofs.YtlmjdcbhpffanaaGreat
open Go.Sx Go.Pl
set_option linter.unusedVariables false
set_option maxRecDepth 100000
noncomputable def zLt:Con Tryz.prog:=(K90.add 65 gRo zDc).add 92 gRy zLv
end Go.Proofs.YtlmjdcbhpffanaaGreat
/- The document's values of a row. -/
namespace Go.Pl
open Go.Sx
def nOu(k:Int):Int:=IntKind.wrap IntKind.i64 ((1:Int)*(2:Int)^if Int.toNat (IntKind.wrap IntKind.u64 k)≤64 then Int.toNat (IntKind.wrap IntKind.u64 k) else 64)
theorem zGk{k:Int}(h3:3≤k)(h5:k≤5):k=3∨k=4∨k=5:=by omega
theorem zCd{k:Int}(h3:3≤k)(h5:k≤5):nOu k=nOf k:=by
 rcases zGk h3 h5 with rfl | rfl | rfl <;> decide +kernel
theorem zBh{k:Int}(h3:3≤k)(h5:k≤5):nOf k=8∨nOf k=16∨nOf k=32:=by
 rcases zGk h3 h5 with rfl | rfl | rfl <;> decide +kernel
theorem zEu{k:Int}(h3:3≤k)(h5:k≤5):¬ IntKind.wrap IntKind.u64 k<(0:Int):=by
 rcases zGk h3 h5 with rfl | rfl | rfl <;> decide +kernel
def zHq(n r t:Int):Int:=Int.tmod (IntKind.wrap IntKind.i64 (IntKind.wrap IntKind.i64 (r+t)+n)) n
def rtB(n:Nat):Bool:=(List.range n).all fun r=>(List.range 7).all fun j=>decide (zHq (n:Int) (r:Int) ((j:Int)-3)=rIx (n:Int) (r:Int) ((j:Int)-3))
theorem qWc{n:Nat}(h:rtB n=true){r t:Int}(h0:0≤r)(h1:r<(n:Int))(h2 : -3≤t)(h3:t≤3):zHq (n:Int) r t=rIx (n:Int) r t:=by
 rw[rtB,List.all_eq_true] at h
 have h4:=h r.toNat (List.mem_range.2 (by omega))
 rw[List.all_eq_true] at h4
 have h5:=of_decide_eq_true (h4 (t+3).toNat (List.mem_range.2 (by omega)))
 rw[show((r.toNat:Nat):Int)=r by omega,show(((t+3).toNat:Nat):Int)-3=t by omega] at h5
 exact h5
theorem zOk{k r t:Int}(h3:3≤k)(h5:k≤5)(h0:0≤r)(h1:r<nOf k)(h2 : -3≤t)(h4:t≤3):zHq (nOf k) r t=rIx (nOf k) r t:=by
 rcases zBh h3 h5 with e | e | e <;> rw[e] at h1 ⊢
 ·exact qWc (n:=8) (by decide +kernel) h0 h1 h2 h4
 ·exact qWc (n:=16) (by decide +kernel) h0 h1 h2 h4
 ·exact qWc (n:=32) (by decide +kernel) h0 h1 h2 h4
theorem zKu{c:Cir}(h:zY c=0):∀ q∈qsN [] c.nodes,-3≤q.2.2∧q.2.2≤3:=by
 obtain⟨h0,_⟩:=xV h
 intro q hq
 rcases(qEs _ _ _).1 hq with hq | ⟨n,hn,ho,rfl⟩
 ·cases hq
 ·rw[wN] at h0
  split at h0
  ·cases h0
  ·rename_i hh
   have hb:qBy c.fx c.ad c.ins n=false:=by
    cases e:qBy c.fx c.ad c.ins n with
    | false=>rfl
    | true=>exact absurd (.inr (.inr (List.any_eq_true.2 ⟨n,hn,e⟩))) hh
   rw[qBy,qMp,decide_eq_true ho,Bool.true_and,decide_eq_false_iff_not] at hb
   show -3≤n.b∧n.b≤3
   omega
theorem zGh{l:List (Int×Int×Int)}{k:Nat}(h:k<l.length):gQ l k∈l:=by
 rw[gQ,List.getD_eq_getElem?_getD,List.getElem?_eq_getElem h]
 exact List.getElem_mem h
end Go.Pl
namespace Go.Proofs.YtlmjdcbhpffanaaGreat
open Go.Sx Go.Pl
set_option linter.unusedVariables false
set_option maxRecDepth 100000
theorem zTv(c:Cir)(s:Sht)(so k r:Int)(K:List It→St→Prop)(R:SV→List HO→Prop):W (xwp Tryz.prog X zLt [] 60 (qK Tryz.f63 [] [⟨[0,1,0,1,1,1,1],[14,13,12,11,8,6,4,0],[]⟩]) [] [.at []] ⟨qR 0 [.v (.int .i64 so),.agg [.v (.int .i64 c.fx),.v (.int .i64 c.ad),.v (.int .i64 c.ins),.x 0 [],.x 1 [],.x 2 [],.x 3 []],.v (.int .i64 k),.agg [.x 4 [],.x 5 [],.x 6 [],.x 7 []],.v (.int .i64 r)],[.ext false (.s false 7 c.nodes.length (cN c.nodes)),.ext false (.s false 1 c.gates.length (cI c.gates)),.ext false (.s false 2 c.looks.length (cL c.looks)),.ext false (.s false 2 c.eqs.length (cK c.eqs)),.ext false (.s false 1 s.fx.length (cT s.fx)),.ext false (.s false 1 s.ad.length (cT s.ad)),.ext false (.s false 1 s.is.length (cT s.is)),.ext false (.s false 4 s.cp.length (cP s.cp))]⟩ K R)=W (∃(l:List Nd),List.length c.4=List.length l∧IsC c.4.length 7 (cN c.4) (cN l)∧List.length l≤4000000000000∧(∀ M:Mem,¬IntKind.wrap IntKind.u64 k<(0:Int))∧K [.at [0,1,0,1,1,1,1],.blk 0,.at [1,1,1,1,1]] (St.mk [(14,.v (qA 0)),(13,.o 0),(12,.v (qA (IntKind.wrap .i64 ((1:Int)*(2:Int)^if Int.toNat (IntKind.wrap IntKind.u64 k)≤64 then Int.toNat (IntKind.wrap IntKind.u64 k) else 64)))),(11,.o 1),(8,.p 2 0),(6,.p 3 0),(4,.v (qA r)),(0,.v (qA so))] [.rowc 53 4 0 (.lit 4 []),.rowc 156 3 (List.length (qsN [] l)) (.fn (cQ (qsN [] l))),.cells [.x 4 [],.x 5 [],.x 6 [],.x 7 []] 42,.cells [.v (qA c.1),.v (qA c.2),.v (qA c.3),.x 8 [],.x 9 [],.x 10 [],.x 11 []] 27,.ext false (.s false 1 s.1.length (cT s.1)),.ext false (.s false 1 s.2.length (cT s.2)),.ext false (.s false 1 s.3.length (cT s.3)),.ext false (.s false 4 s.4.length (cP s.4)),.ext false (.s false 7 c.4.length (cN c.4)),.ext false (.s false 1 c.5.length (cI c.5)),.ext false (.s false 2 c.6.length (cL c.6)),.ext false (.s false 2 c.7.length (cK c.7))])):=by kernel_rfl
theorem zQc(c:Cir)(s:Sht)(so r:Int)(qs:List (Int×Int×Int))(vs:List Nat)(n:Int)(m i M:Nat)(K:List It→St→Prop)(R:SV→List HO→Prop):W (xwp Tryz.prog X zLt [] 60 (qK Tryz.f63 [] [⟨[0,1,0,1,1,1,1],[14,13,12,11,8,6,4,0],[]⟩]) [] (.at [0,0,1,0,1,1,1,1]::.rnd [0,0,1,0,1,1,1,1] M::[.blk 0,.at [1,1,1,1,1]]) (St.mk [(14,.v (qA (i:Int))),(13,.o 0),(12,.v (qA n)),(11,.o 1),(8,.p 2 0),(6,.p 3 0),(4,.v (qA r)),(0,.v (qA so))] [.rowc 53 4 m (.fn (cE vs)),.rowc 156 3 qs.length (.fn (cQ qs)),.cells [.x 4 [],.x 5 [],.x 6 [],.x 7 []] 42,.cells [.v (qA c.1),.v (qA c.2),.v (qA c.3),.x 8 [],.x 9 [],.x 10 [],.x 11 []] 27,.ext false (.s false 1 s.1.length (cT s.1)),.ext false (.s false 1 s.2.length (cT s.2)),.ext false (.s false 1 s.3.length (cT s.3)),.ext false (.s false 4 s.4.length (cP s.4)),.ext false (.s false 7 c.4.length (cN c.4)),.ext false (.s false 1 c.5.length (cI c.5)),.ext false (.s false 2 c.6.length (cL c.6)),.ext false (.s false 2 c.7.length (cK c.7))]) K R)=W (bif decide ((↑i:Int)<(↑qs.length:Int)) then(∀ M:Mem,(0:Int)≤(↑i:Int)∧(↑i:Int)<(↑qs.length:Int))∧(∀ M:Mem,i<List.length qs)∧(∀ M:Mem,i<List.length qs)∧(∀ M:Mem,(0:Int)≤(↑i:Int)∧(↑i:Int)<(↑qs.length:Int))∧(∀ M:Mem,i<List.length qs)∧(∀ M:Mem,i<List.length qs)∧(∀ M:Mem,(0:Int)≤(↑i:Int)∧(↑i:Int)<(↑qs.length:Int))∧(∀ M:Mem,i<List.length qs)∧(∀ M:Mem,i<List.length qs)∧(∀ M:Mem,¬n=(0:Int))∧lS s.1.length s.2.length s.3.length s.4.length (cT s.1) (cT s.2) (cT s.3) (cP s.4) fun(s_1:Sht)=>(∀ M:Mem,(m+1)*32≤140737488355328∧m+1≤140737488355328)∧K [.rnd [0,0,1,0,1,1,1,1] M,.blk 0,.at [1,1,1,1,1]] (St.mk [(14,.v (qA (IntKind.wrap .i64 ((↑i:Int)+(1:Int))))),(13,.o 0),(12,.v (qA n)),(11,.o 1),(8,.p 2 0),(6,.p 3 0),(4,.v (qA r)),(0,.v (qA so))] [.rowc 53 4 (m+1) (.app m (.fn (cE vs)) (.lit 4 [.v (qC (↑(qB (atS s_1 (gQ qs i).1 (gQ qs i).2.1 (Int.tmod (IntKind.wrap .i64 (IntKind.wrap .i64 (r+(gQ qs i).2.2)+n)) n)) 0):Int)),.v (qC (↑(qB (atS s_1 (gQ qs i).1 (gQ qs i).2.1 (Int.tmod (IntKind.wrap .i64 (IntKind.wrap .i64 (r+(gQ qs i).2.2)+n)) n)) 1):Int)),.v (qC (↑(qB (atS s_1 (gQ qs i).1 (gQ qs i).2.1 (Int.tmod (IntKind.wrap .i64 (IntKind.wrap .i64 (r+(gQ qs i).2.2)+n)) n)) 2):Int)),.v (qC (↑(qB (atS s_1 (gQ qs i).1 (gQ qs i).2.1 (Int.tmod (IntKind.wrap .i64 (IntKind.wrap .i64 (r+(gQ qs i).2.2)+n)) n)) 3):Int))])),.rowc 156 3 qs.length (.fn (cQ qs)),.cells [.x 4 [],.x 5 [],.x 6 [],.x 7 []] 42,.cells [.v (qA c.1),.v (qA c.2),.v (qA c.3),.x 8 [],.x 9 [],.x 10 [],.x 11 []] 27,.ext false (.s false 1 s.1.length (cT s.1)),.ext false (.s false 1 s.2.length (cT s.2)),.ext false (.s false 1 s.3.length (cT s.3)),.ext false (.s false 4 s.4.length (cP s.4)),.ext false (.s false 7 c.4.length (cN c.4)),.ext false (.s false 1 c.5.length (cI c.5)),.ext false (.s false 2 c.6.length (cL c.6)),.ext false (.s false 2 c.7.length (cK c.7))]) else vlC c.4.length qs.length m (cN c.4) (cQ qs) (cE vs) fun(l:List Nd) (qs:List Qy) (vs:List Nat)=>List.length l≤4000000000000∧R (.o 0) [.rowc 53 4 (List.length (vlR so qs vs l).1) (.fn (cE (vlR so qs vs l).1))]):=by kernel_rfl
theorem qTp(c:Cir)(hc:c.ok)(s:Sht)(hs:s.ok)(so k r:Int)(h0:zY c=0)(h3:3≤k)(h5:k≤5)(r0:0≤r)(r1:r<nOf k)(hl:(qsN [] c.nodes).length≤4000)(Q:SV→List HO→Prop)(hq:Q (.o 0) [.rowc 53 4 (zT c s so k (qsN [] c.nodes) r).length (.fn (cE (zT c s so k (qsN [] c.nodes) r)))]):∀(d i:Nat) (vs:List Nat),i+d=(qsN [] c.nodes).length→vs=atQ s k r ((qsN [] c.nodes).take i) →
  FOk Tryz.prog Tryz.f63 Q (.rnd [0,0,1,0,1,1,1,1] (d+1)::[.blk 0,.at [1,1,1,1,1]]) ((St.mk [(14,SV.v (qA (i:Int))),(13,SV.o 0),(12,SV.v (qA (nOf k))),(11,SV.o 1),(8,SV.p 2 0),(6,SV.p 3 0),(4,SV.v (qA r)),(0,SV.v (qA so))] [HO.rowc 53 4 vs.length (Ct.fn (cE vs)),HO.rowc 156 3 (List.length (qsN [] c.nodes)) (Ct.fn (cQ (qsN [] c.nodes))),HO.cells [SV.x 4 [],SV.x 5 [],SV.x 6 [],SV.x 7 []] 42,HO.cells [SV.v (qA c.1),SV.v (qA c.2),SV.v (qA c.3),SV.x 8 [],SV.x 9 [],SV.x 10 [],SV.x 11 []] 27,HO.ext false (qG.s false 1 (List.length s.1) (cT s.1)),HO.ext false (qG.s false 1 (List.length s.2) (cT s.2)),HO.ext false (qG.s false 1 (List.length s.3) (cT s.3)),HO.ext false (qG.s false 4 (List.length s.4) (cP s.4)),HO.ext false (qG.s false 7 (List.length c.4) (cN c.4)),HO.ext false (qG.s false 1 (List.length c.5) (cI c.5)),HO.ext false (qG.s false 2 (List.length c.6) (cL c.6)),HO.ext false (qG.s false 2 (List.length c.7) (cK c.7))]))
 | 0,i,vs,hd,hv=>by
  have h1:=hc.n.2
  have h2:=qDi h0
  refine FOk.rnd (qD hm 60 ((zQc c s so r (qsN [] c.nodes) vs (nOf k) vs.length i 0 _ _).mpr ⟨?_⟩))
  rw[qF,if_neg (by omega)]
  rw[show i=(qsN [] c.nodes).length by omega,List.take_length] at hv
  refine⟨⟨c.nodes,qsN [] c.nodes,vs,rfl,IsC.refl _ _ _,rfl,IsC.refl _ _ _,rfl,IsC.refl _ _ _,by omega,by omega,fun x hx=>(hc.n.1 x hx).1,by rw[hv]; exact qYo hs k r _,by omega,?_⟩⟩
  rw[hv]
  exact hq
 | d+1,i,vs,hd,hv=>by
  have hi:i<(qsN [] c.nodes).length:=by omega
  have hlen:vs.length=i:=by rw[hv,atQ,List.length_map,List.length_take]; omega
  obtain⟨t0,t1⟩:=zKu h0 _ (zGh hi)
  have hn0:¬ nOf k=(0:Int):=by rcases zBh h3 h5 with e | e | e <;> omega
  refine FOk.rnd (qD hm 60 ((zQc c s so r (qsN [] c.nodes) vs (nOf k) vs.length i (d+1) _ _).mpr ⟨?_⟩))
  rw[qF,if_pos (by omega),qL _ (by omega)]
  have next:=qTp c hc s hs so k r h0 h3 h5 r0 r1 hl Q hq d (i+1) (vs++[atS s (gQ (qsN [] c.nodes) i).1 (gQ (qsN [] c.nodes) i).2.1 (zHq (nOf k) r (gQ (qsN [] c.nodes) i).2.2)]) (by omega) (by rw[qSx hi,hv,zOk h3 h5 r0 r1 t0 t1])
  rw[List.length_append,List.length_singleton] at next
  refine aI (aI (aI (aI (aI (aI (aI (aI (aI (And.intro (fun _=>hn0) (qIy s hs (And.intro (fun _=>by omega) ?_)))))))))))
  exact FOk.cv next ⟨⟨rfl,rfl,rfl,qJz _ rfl⟩,HE.refl _,HE.refl _,HE.refl _,HE.refl _,HE.refl _,HE.refl _,HE.refl _,HE.refl _,HE.refl _,HE.refl _,HE.refl _,trivial⟩
theorem zXv:Tryz.f63.body.isSome=true:=by kernel_rfl
theorem zYk(c:Cir)(so k r:Int):Nat.ble ([.v (.int .i64 so),.agg [.v (.int .i64 c.fx),.v (.int .i64 c.ad),.v (.int .i64 c.ins),.x 0 [],.x 1 [],.x 2 [],.x 3 []],.v (.int .i64 k),.agg [.x 4 [],.x 5 [],.x 6 [],.x 7 []],.v (.int .i64 r)]:List SV).length Tryz.f63.ntmps=true:=by kernel_rfl
theorem zOh(c:Cir)(hc:c.ok)(s:Sht)(hs:s.ok)(so k r:Int)(hx:zY c=0∧3≤k∧k≤5∧0≤r∧r<nOf k)(Q:SV→List HO→Prop)(hq:Q (.x 0 []) [.ext false (.s false 4 (zT c s so k (qsN [] c.nodes) r).length (cE (zT c s so k (qsN [] c.nodes) r)))]):qI Tryz.prog 63 [.v (.int .i64 so),.agg [.v (.int .i64 c.fx),.v (.int .i64 c.ad),.v (.int .i64 c.ins),.x 0 [],.x 1 [],.x 2 [],.x 3 []],.v (.int .i64 k),.agg [.x 4 [],.x 5 [],.x 6 [],.x 7 []],.v (.int .i64 r)] [.ext false (.s false 7 c.nodes.length (cN c.nodes)),.ext false (.s false 1 c.gates.length (cI c.gates)),.ext false (.s false 2 c.looks.length (cL c.looks)),.ext false (.s false 2 c.eqs.length (cK c.eqs)),.ext false (.s false 1 s.fx.length (cT s.fx)),.ext false (.s false 1 s.ad.length (cT s.ad)),.ext false (.s false 1 s.is.length (cT s.is)),.ext false (.s false 4 s.cp.length (cP s.cp))] Q:=by
 obtain⟨h0,h3,h5,r0,r1⟩:=hx
 have g:qI Tryz.prog 63 [.v (.int .i64 so),.agg [.v (.int .i64 c.fx),.v (.int .i64 c.ad),.v (.int .i64 c.ins),.x 0 [],.x 1 [],.x 2 [],.x 3 []],.v (.int .i64 k),.agg [.x 4 [],.x 5 [],.x 6 [],.x 7 []],.v (.int .i64 r)] [.ext false (.s false 7 c.nodes.length (cN c.nodes)),.ext false (.s false 1 c.gates.length (cI c.gates)),.ext false (.s false 2 c.looks.length (cL c.looks)),.ext false (.s false 2 c.eqs.length (cK c.eqs)),.ext false (.s false 1 s.fx.length (cT s.fx)),.ext false (.s false 1 s.ad.length (cT s.ad)),.ext false (.s false 1 s.is.length (cT s.is)),.ext false (.s false 4 s.cp.length (cP s.cp))] (fun z h'=>z=.o 0∧h'=[.rowc 53 4 (zT c s so k (qsN [] c.nodes) r).length (.fn (cE (zT c s so k (qsN [] c.nodes) r)))]):=by
  refine qJ Tryz.func63 zXv ?_ ?_
  ·exact zYk c so k r
  refine qD hm 60 ((zTv c s so k r _ _).mpr ⟨?_⟩)
  have hl:=qDi h0
  have hl2:=qFa c.nodes []
  rw[List.length_nil] at hl2
  refine⟨c.nodes,rfl,IsC.refl _ _ _,by omega,fun _=>zEu h3 h5,?_⟩
  have e:=zCd h3 h5
  rw[nOu] at e
  rw[e]
  exact FOk.loop ((qsN [] c.nodes).length+1) (by kernel_rfl) (FOk.cv (qTp c hc s hs so k r h0 h3 h5 r0 r1 (by omega) _ ⟨rfl,rfl⟩ (qsN [] c.nodes).length 0 [] (by omega) rfl) ⟨⟨rfl,rfl,rfl,fun k hk=>by simp at hk⟩,HE.refl _,HE.refl _,HE.refl _,HE.refl _,HE.refl _,HE.refl _,HE.refl _,HE.refl _,HE.refl _,HE.refl _,HE.refl _,trivial⟩)
 have h:=qI.gc (r1:=.x 0 []) (h1:=[.ext false (.s false 4 (zT c s so k (qsN [] c.nodes) r).length (cE (zT c s so k (qsN [] c.nodes) r)))]) rfl (qI.frz1 0 rfl g)
 exact qI.mono h fun z h' hh=>by rw[hh.1,hh.2]; exact hq
noncomputable def zOq:List SV→List HO→Option ((SV→List HO→Prop)→Prop)
 | [.v (.int .i64 so),.agg [.v (.int .i64 fx),.v (.int .i64 ad),.v (.int .i64 ins),.x 0 [],.x 1 [],.x 2 [],.x 3 []],.v (.int .i64 k),.agg [.x 4 [],.x 5 [],.x 6 [],.x 7 []],.v (.int .i64 r)],[.ext false (.s false 7 n0 c0),.ext false (.s false 1 n1 c1),.ext false (.s false 2 n2 c2),.ext false (.s false 2 n3 c3),.ext false (.s false 1 m0 d0),.ext false (.s false 1 m1 d1),.ext false (.s false 1 m2 d2),.ext false (.s false 4 m3 d3)] =>
  some fun Q=>lF fx ad ins n0 n1 n2 n3 m0 m1 m2 m3 c0 c1 c2 c3 d0 d1 d2 d3 fun c s=>(zY c=0∧3≤k∧k≤5∧0≤r∧r<nOf k)∧Q (.x 0 []) [.ext false (.s false 4 (zT c s so k (qsN [] c.nodes) r).length (cE (zT c s so k (qsN [] c.nodes) r)))]
 | _,_=>none
theorem zFf(args:List SV)(h:List HO)(tr:(SV→List HO→Prop)→Prop)(Q:SV→List HO→Prop)(hc:zOq args h=some tr)(ht:tr Q):qI Tryz.prog 63 args h Q:=by
 unfold zOq at hc
 split at hc
 ·simp only[sI] at hc
  subst hc
  obtain⟨c,rfl,rfl,rfl,⟨rfl,e0⟩,⟨rfl,e1⟩,⟨rfl,e2⟩,⟨rfl,e3⟩,hk,ht2⟩:=ht.h.h
  obtain⟨s,⟨rfl,e4⟩,⟨rfl,e5⟩,⟨rfl,e6⟩,⟨rfl,e7⟩,hs,hx,hq⟩:=ht2.h
  exact qI.ac (zOh c hk s hs _ _ _ hx Q hq) ⟨⟨rfl,rfl,rfl,rfl,e0⟩,⟨rfl,rfl,rfl,rfl,e1⟩,⟨rfl,rfl,rfl,rfl,e2⟩,⟨rfl,rfl,rfl,rfl,e3⟩,⟨rfl,rfl,rfl,rfl,e4⟩,⟨rfl,rfl,rfl,rfl,e5⟩,⟨rfl,rfl,rfl,rfl,e6⟩,⟨rfl,rfl,rfl,rfl,e7⟩,trivial⟩
 ·cases hc
noncomputable def K92:Con Tryz.prog:=zLt.add 63 zOq zFf
end Go.Proofs.YtlmjdcbhpffanaaGreat
/- The document's Row. -/
namespace Go.Pl
open Go.Sx
theorem qRa{s:Int}(h:s<0∨3<s):fE s=20:=by rw[fE,if_pos ((qSg s).2 h)]
theorem zIi{s:Int}(h:¬ (s<0∨3<s)):fE s=0:=by rw[fE,if_neg (fun e=>h ((qSg s).1 e))]
end Go.Pl
namespace Go.Proofs.YtlmjdcbhpffanaaGreat
open Go.Sx Go.Pl
set_option linter.unusedVariables false
set_option maxRecDepth 100000
theorem zYo(c:Cir)(s:Sht)(so k r:Int)(K:List It→St→Prop)(R:SV→List HO→Prop):W (xwp Tryz.prog X K92 [] 60 (qK Tryz.f29 [] []) [] [.at []] ⟨qR 0 [.v (.int .i64 so),.agg [.v (.int .i64 c.fx),.v (.int .i64 c.ad),.v (.int .i64 c.ins),.x 0 [],.x 1 [],.x 2 [],.x 3 []],.v (.int .i64 k),.agg [.x 4 [],.x 5 [],.x 6 [],.x 7 []],.v (.int .i64 r)],[.ext false (.s false 7 c.nodes.length (cN c.nodes)),.ext false (.s false 1 c.gates.length (cI c.gates)),.ext false (.s false 2 c.looks.length (cL c.looks)),.ext false (.s false 2 c.eqs.length (cK c.eqs)),.ext false (.s false 1 s.fx.length (cT s.fx)),.ext false (.s false 1 s.ad.length (cT s.ad)),.ext false (.s false 1 s.is.length (cT s.is)),.ext false (.s false 4 s.cp.length (cP s.cp))]⟩ K R)=W (bif decide (so<(0:Int)) then R (.tup [.v (Value.slice none 0 0),.v (qA 20)]) [] else bif decide ((3:Int)<so) then R (.tup [.v (Value.slice none 0 0),.v (qA 20)]) [] else lF c.1 c.2 c.3 c.4.length c.5.length c.6.length c.7.length s.1.length s.2.length s.3.length s.4.length (cN c.4) (cI c.5) (cL c.6) (cK c.7) (cT s.1) (cT s.2) (cT s.3) (cP s.4) fun(c_1:Cir) (s_1:Sht)=>bif !xK c_1 k s_1==(0:Int) then R (.tup [.v (Value.slice none 0 0),.v (qA (xK c_1 k s_1))]) [] else bif decide (r<(0:Int)) then R (.tup [.v (Value.slice none 0 0),.v (qA 50)]) [] else(∀ M:Mem,¬IntKind.wrap IntKind.u64 k<(0:Int))∧bif decide (IntKind.wrap .i64 ((1:Int)*(2:Int)^if Int.toNat (IntKind.wrap IntKind.u64 k)≤64 then Int.toNat (IntKind.wrap IntKind.u64 k) else 64)≤r) then R (.tup [.v (Value.slice none 0 0),.v (qA 50)]) [] else lF c.1 c.2 c.3 c.4.length c.5.length c.6.length c.7.length s.1.length s.2.length s.3.length s.4.length (cN c.4) (cI c.5) (cL c.6) (cK c.7) (cT s.1) (cT s.2) (cT s.3) (cP s.4) fun(c:Cir) (s:Sht)=>(zY c=(0:Int)∧(3:Int)≤k∧k≤(5:Int)∧(0:Int)≤r∧r<nOf k)∧R (.tup [.x 0 [],.v (qA 0)]) [.ext false (.s false 4 (List.length (zT c s so k (qsN [] c.4) r)) (cE (zT c s so k (qsN [] c.4) r)))]):=by kernel_rfl
theorem zVw:Tryz.f29.body.isSome=true:=by kernel_rfl
theorem zVn(c:Cir)(so k r:Int):Nat.ble ([.v (.int .i64 so),.agg [.v (.int .i64 c.fx),.v (.int .i64 c.ad),.v (.int .i64 c.ins),.x 0 [],.x 1 [],.x 2 [],.x 3 []],.v (.int .i64 k),.agg [.x 4 [],.x 5 [],.x 6 [],.x 7 []],.v (.int .i64 r)]:List SV).length Tryz.f29.ntmps=true:=by kernel_rfl
theorem zLr(c:Cir)(hc:c.ok)(s:Sht)(hs:s.ok)(so k r:Int)(Q:SV→List HO→Prop)(hq:Q (.tup [.x 0 [],.v (.int .i64 (qAg c s so k r).2)]) [.ext false (.s false 4 (qAg c s so k r).1.length (cE (qAg c s so k r).1))]):qI Tryz.prog 29 [.v (.int .i64 so),.agg [.v (.int .i64 c.fx),.v (.int .i64 c.ad),.v (.int .i64 c.ins),.x 0 [],.x 1 [],.x 2 [],.x 3 []],.v (.int .i64 k),.agg [.x 4 [],.x 5 [],.x 6 [],.x 7 []],.v (.int .i64 r)] [.ext false (.s false 7 c.nodes.length (cN c.nodes)),.ext false (.s false 1 c.gates.length (cI c.gates)),.ext false (.s false 2 c.looks.length (cL c.looks)),.ext false (.s false 2 c.eqs.length (cK c.eqs)),.ext false (.s false 1 s.fx.length (cT s.fx)),.ext false (.s false 1 s.ad.length (cT s.ad)),.ext false (.s false 1 s.is.length (cT s.is)),.ext false (.s false 4 s.cp.length (cP s.cp))] Q:=by
 refine qI.nilTX 4 (cE []) (qJ Tryz.func29 zVw ?_ ?_)
 ·exact zVn c so k r
 refine qD hm 60 ((zYo c s so k r _ _).mpr ⟨?_⟩)
 rw[qAg] at hq
 simp only[qN,qT,qF]
 have bad:∀ z:Int,Q (.tup [.x 0 [],.v (.int .i64 z)]) [.ext false (.s false 4 0 (cE []))]→Q (SV.tup [.v (.slice none 0 0),.v (qA z)]) []∨∃ y,SV.tup [.v (.slice none 0 0),.v (qA z)]=SV.tup [.v (.slice none 0 0),.v y]∧True∧Q (.tup [.x 0 [],.v y]) [.ext false (.s false 4 0 (cE []))]:=fun z hz=>.inr ⟨_,rfl,trivial,hz⟩
 have sz:¬ (so<0∨3<so)→fE so=0:=zIi
 refine qE (fun h=>?_) (fun ha=>qE (fun h=>?_) (fun hb=>?_))
 ·have e:=qRa (s:=so) (.inl h)
  rw[if_pos (by omega),e] at hq; exact bad _ hq
 ·have e:=qRa (s:=so) (.inr h)
  rw[if_pos (by omega),e] at hq; exact bad _ hq
 rw[if_neg (fun h=>h (sz (by omega)))] at hq
 refine qDs c hc s hs (qE (fun h1=>?_) (fun h1=>?_))
 ·rw[if_neg (fun h=>h h1)] at hq
  obtain⟨hk0,h3,h5,_⟩:=wK h1
  refine qE (fun h2=>?_) (fun h2=>?_)
  ·rw[if_pos h2] at hq; exact bad _ hq
  rw[if_neg h2] at hq
  have e:=zCd h3 h5
  rw[nOu] at e
  rw[e]
  refine And.intro (fun _=>zEu h3 h5) (qE (fun h4=>?_) (fun h4=>?_))
  ·rw[if_pos h4] at hq; exact bad _ hq
  ·rw[if_neg h4] at hq
   exact qDs c hc s hs ⟨⟨hk0,h3,h5,by omega,by omega⟩,.inl hq⟩
 ·rw[if_pos h1] at hq
  exact bad _ hq
noncomputable def zNh:List SV→List HO→Option ((SV→List HO→Prop)→Prop)
 | [.v (.int .i64 so),.agg [.v (.int .i64 fx),.v (.int .i64 ad),.v (.int .i64 ins),.x 0 [],.x 1 [],.x 2 [],.x 3 []],.v (.int .i64 k),.agg [.x 4 [],.x 5 [],.x 6 [],.x 7 []],.v (.int .i64 r)],[.ext false (.s false 7 n0 c0),.ext false (.s false 1 n1 c1),.ext false (.s false 2 n2 c2),.ext false (.s false 2 n3 c3),.ext false (.s false 1 m0 d0),.ext false (.s false 1 m1 d1),.ext false (.s false 1 m2 d2),.ext false (.s false 4 m3 d3)] =>
  some fun Q=>lF fx ad ins n0 n1 n2 n3 m0 m1 m2 m3 c0 c1 c2 c3 d0 d1 d2 d3 fun c s=>Q (.tup [.x 0 [],.v (.int .i64 (qAg c s so k r).2)]) [.ext false (.s false 4 (qAg c s so k r).1.length (cE (qAg c s so k r).1))]
 | _,_=>none
theorem zGe(args:List SV)(h:List HO)(tr:(SV→List HO→Prop)→Prop)(Q:SV→List HO→Prop)(hc:zNh args h=some tr)(ht:tr Q):qI Tryz.prog 29 args h Q:=by
 unfold zNh at hc
 split at hc
 ·simp only[sI] at hc
  subst hc
  obtain⟨c,rfl,rfl,rfl,⟨rfl,e0⟩,⟨rfl,e1⟩,⟨rfl,e2⟩,⟨rfl,e3⟩,hk,ht2⟩:=ht.h.h
  obtain⟨s,⟨rfl,e4⟩,⟨rfl,e5⟩,⟨rfl,e6⟩,⟨rfl,e7⟩,hs,hq⟩:=ht2.h
  exact qI.ac (zLr c hk s hs _ _ _ Q hq) ⟨⟨rfl,rfl,rfl,rfl,e0⟩,⟨rfl,rfl,rfl,rfl,e1⟩,⟨rfl,rfl,rfl,rfl,e2⟩,⟨rfl,rfl,rfl,rfl,e3⟩,⟨rfl,rfl,rfl,rfl,e4⟩,⟨rfl,rfl,rfl,rfl,e5⟩,⟨rfl,rfl,rfl,rfl,e6⟩,⟨rfl,rfl,rfl,rfl,e7⟩,trivial⟩
 ·cases hc
noncomputable def K93:Con Tryz.prog:=K92.add 29 zNh zGe
end Go.Proofs.YtlmjdcbhpffanaaGreat
