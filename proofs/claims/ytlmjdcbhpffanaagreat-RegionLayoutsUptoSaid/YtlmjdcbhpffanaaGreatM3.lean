/- The texts Z56 .. Z123 of this proof, one behind the other. -/
import Derived.Test.YtlmjdcbhpffanaaGreatM2
/- Is a circuit right? By the document. -/
namespace Go.Pl
open Go.Sx
theorem zLi(c:Cir){k:Int}(h1:2≤k)(h2:k≤4):[SV.v (.int .i64 c.fx),SV.v (.int .i64 c.ad),SV.v (.int .i64 c.ins)][0+Int.toNat (IntKind.wrap IntKind.i64 (k-2))*1]?=some (SV.v (.int .i64 (qMg c k))):=by
 have:k=2∨k=3∨k=4:=by omega
 rcases this with rfl | rfl | rfl <;> rfl
theorem qPc{l:List (Int×Int)}{k:Nat}(hk:k<l.length){x:Int×Int}:x∈l.take k↔∃ j,j<k∧gK l j=x:=by
 constructor
 ·intro h
  obtain⟨j,hj,e⟩:=List.getElem_of_mem h
  rw[List.length_take] at hj
  refine⟨j,by omega,?_⟩
  rw[List.getElem_take] at e
  rw[gK,List.getD_eq_getElem?_getD,List.getElem?_eq_getElem (by omega)]
  exact e
 ·rintro⟨j,hj,rfl⟩
  have hj2:j<(l.take k).length:=by rw[List.length_take]; omega
  have:(l.take k)[j]=gK l j:=by
   rw[List.getElem_take,gK,List.getD_eq_getElem?_getD,List.getElem?_eq_getElem (by omega)]; rfl
  rw[← this]
  exact List.getElem_mem hj2
theorem qIl{p:Int→Bool}{l:List Int}{k:Nat}(h:k<l.length):(l.take (k+1)).any p=((l.take k).any p||p (gI l k)):=by
 rw[qSm h,List.any_append,List.any_cons,List.any_nil,Bool.or_false]
theorem zAk{p:List Int×List Int→Bool}{l:List (List Int×List Int)}{k:Nat}(h:k<l.length):(l.take (k+1)).any p=((l.take k).any p||p (gL l k)):=by
 rw[← zAh h,List.any_append,List.any_cons,List.any_nil,Bool.or_false]
theorem qSk{α:Type}{p:α→Bool}{l:List α}{x:α}(h:x∈l)(hp:p x=true):l.any p=true:=List.any_eq_true.2 ⟨x,h,hp⟩
end Go.Pl
namespace Go.Proofs.YtlmjdcbhpffanaaGreat
open Go.Sx Go.Pl
set_option linter.unusedVariables false
set_option maxRecDepth 100000
theorem rkS(c:Cir)(K:List It→St→Prop)(R:SV→List HO→Prop):W (xwp Tryz.prog X K55 [] 60 (qO Tryz.f39 [([0,1,0,1,1,1,1],4)] [⟨[0,1,0,1,1,1,1,1,1],[6,1,4],[]⟩,⟨[0,1,0,1,1,1,1,1,1,1],[7,1,4],[]⟩,⟨[0,1,1,1,0,0,1,0,0,1,0,1,1,1,1,1,1,1],[9,8,7,1,4],[]⟩,⟨[0,1,0,1,1,1,1,1,1,1,1],[10,1,4],[]⟩,⟨[0,1,1,1,0,0,1,0,0,1,0,1,1,1,1,1,1,1,1],[12,11,10,1,4],[]⟩]) [] [.at []] ⟨qQ 0 [.agg [.v (.int .i64 c.fx),.v (.int .i64 c.ad),.v (.int .i64 c.ins),.x 0 [],.x 1 [],.x 2 [],.x 3 []]],[.ext false (.s false 7 c.nodes.length (cN c.nodes)),.ext false (.s false 1 c.gates.length (cI c.gates)),.ext false (.s false 2 c.looks.length (cL c.looks)),.ext false (.s false 2 c.eqs.length (cK c.eqs))]⟩ K R)=W (∃(l:List Nd),List.length c.4=List.length l∧IsC c.4.length 7 (cN c.4) (cN l)∧List.length l≤4000000000000∧bif !qAa l c.1 c.2 c.3==(0:Int) then R (.v (qA (qAa l c.1 c.2 c.3))) [] else(∀ M:Mem,0+3≤3)∧(∀ M:Mem,(0:Int)≤(0:Int)∧(0:Int)<(3:Int))∧bif decide (c.1<(0:Int)) then R (.v (qA 120)) [] else(∀ M:Mem,(0:Int)≤(0:Int)∧(0:Int)<(3:Int))∧bif decide ((8:Int)<c.1) then R (.v (qA 120)) [] else(∀ M:Mem,(0:Int)≤(1:Int)∧(1:Int)<(3:Int))∧bif decide (c.2<(0:Int)) then R (.v (qA 120)) [] else(∀ M:Mem,(0:Int)≤(1:Int)∧(1:Int)<(3:Int))∧bif decide ((8:Int)<c.2) then R (.v (qA 120)) [] else(∀ M:Mem,(0:Int)≤(2:Int)∧(2:Int)<(3:Int))∧bif decide (c.3<(0:Int)) then R (.v (qA 120)) [] else(∀ M:Mem,(0:Int)≤(2:Int)∧(2:Int)<(3:Int))∧bif decide ((8:Int)<c.3) then R (.v (qA 120)) [] else bif c.2==(0:Int) then R (.v (qA 120)) [] else bif decide ((16:Int)<(↑c.5.length:Int)) then R (.v (qA 120)) [] else bif decide ((4:Int)<(↑c.6.length:Int)) then R (.v (qA 120)) [] else bif decide ((8:Int)<(↑c.7.length:Int)) then R (.v (qA 120)) [] else K [.at [0,1,0,1,1,1,1,1,1],.blk 2,.at [1,1,1,1,1,1,1]] (St.mk [(6,.v (qA 0)),(1,.p 0 0),(4,.p 1 0)] [.cells [.v (qA c.1),.v (qA c.2),.v (qA c.3),.x 2 [],.x 3 [],.x 4 [],.x 5 []] 27,.cells [.v (qA c.1),.v (qA c.2),.v (qA c.3)] 140,.ext false (.s false 7 c.4.length (cN c.4)),.ext false (.s false 1 c.5.length (cI c.5)),.ext false (.s false 2 c.6.length (cL c.6)),.ext false (.s false 2 c.7.length (cK c.7))])):=by kernel_rfl
theorem rk1(c:Cir)(k M:Nat)(K:List It→St→Prop)(R:SV→List HO→Prop):W (xwp Tryz.prog X K55 [(76,[])] 60 (qO Tryz.f39 [] [⟨[0,1,0,1,1,1,1,1,1],[6,1,4],[]⟩,⟨[0,1,0,1,1,1,1,1,1,1],[7,1,4],[]⟩,⟨[0,1,1,1,0,0,1,0,0,1,0,1,1,1,1,1,1,1],[9,8,7,1,4],[]⟩,⟨[0,1,0,1,1,1,1,1,1,1,1],[10,1,4],[]⟩,⟨[0,1,1,1,0,0,1,0,0,1,0,1,1,1,1,1,1,1,1],[12,11,10,1,4],[]⟩]) [] (.at [0,0,1,0,1,1,1,1,1,1]::.rnd [0,0,1,0,1,1,1,1,1,1] M::[.blk 2,.at [1,1,1,1,1,1,1]]) ⟨[(6,.v (.int .i64 (k:Int))),(1,.p 0 0),(4,.p 1 0)],[.cells [.v (.int .i64 c.fx),.v (.int .i64 c.ad),.v (.int .i64 c.ins),.x 2 [],.x 3 [],.x 4 [],.x 5 []] 27,.cells [.v (.int .i64 c.fx),.v (.int .i64 c.ad),.v (.int .i64 c.ins)] 140,.ext false (.s false 7 c.nodes.length (cN c.nodes)),.ext false (.s false 1 c.gates.length (cI c.gates)),.ext false (.s false 2 c.looks.length (cL c.looks)),.ext false (.s false 2 c.eqs.length (cK c.eqs))]⟩ K R)=W (bif decide ((↑k:Int)<(↑c.5.length:Int)) then(∀ M:Mem,(0:Int)≤(↑k:Int)∧(↑k:Int)<(↑c.5.length:Int))∧(∀ M:Mem,k<List.length c.5)∧bif decide ((0:Int)≤gI c.5 k) then bif !decide (gI c.5 k<(↑c.4.length:Int)) then R (.v (qA 120)) [] else K [.rnd [0,0,1,0,1,1,1,1,1,1] M,.blk 2,.at [1,1,1,1,1,1,1]] (St.mk [(6,.v (qA (IntKind.wrap .i64 ((↑k:Int)+(1:Int))))),(1,.p 0 0),(4,.p 1 0)] [.cells [.v (qA c.1),.v (qA c.2),.v (qA c.3),.x 2 [],.x 3 [],.x 4 [],.x 5 []] 27,.cells [.v (qA c.1),.v (qA c.2),.v (qA c.3)] 140,.ext false (.s false 7 c.4.length (cN c.4)),.ext false (.s false 1 c.5.length (cI c.5)),.ext false (.s false 2 c.6.length (cL c.6)),.ext false (.s false 2 c.7.length (cK c.7))]) else R (.v (qA 120)) [] else K [.at [0,1,0,1,1,1,1,1,1,1],.blk 4,.at [1,1,1,1,1,1,1,1]] (St.mk [(7,.v (qA 0)),(1,.p 0 0),(4,.p 1 0)] [.cells [.v (qA c.1),.v (qA c.2),.v (qA c.3),.x 2 [],.x 3 [],.x 4 [],.x 5 []] 27,.cells [.v (qA c.1),.v (qA c.2),.v (qA c.3)] 140,.ext false (.s false 7 c.4.length (cN c.4)),.ext false (.s false 1 c.5.length (cI c.5)),.ext false (.s false 2 c.6.length (cL c.6)),.ext false (.s false 2 c.7.length (cK c.7))])):=by kernel_rfl
theorem rk2(c:Cir)(k M:Nat)(K:List It→St→Prop)(R:SV→List HO→Prop):W (xwp Tryz.prog X K55 [] 60 (qO Tryz.f39 [] [⟨[0,1,0,1,1,1,1,1,1],[6,1,4],[]⟩,⟨[0,1,0,1,1,1,1,1,1,1],[7,1,4],[]⟩,⟨[0,1,1,1,0,0,1,0,0,1,0,1,1,1,1,1,1,1],[9,8,7,1,4],[]⟩,⟨[0,1,0,1,1,1,1,1,1,1,1],[10,1,4],[]⟩,⟨[0,1,1,1,0,0,1,0,0,1,0,1,1,1,1,1,1,1,1],[12,11,10,1,4],[]⟩]) [] (.at [0,0,1,0,1,1,1,1,1,1,1]::.rnd [0,0,1,0,1,1,1,1,1,1,1] M::[.blk 4,.at [1,1,1,1,1,1,1,1]]) ⟨[(7,.v (.int .i64 (k:Int))),(1,.p 0 0),(4,.p 1 0)],[.cells [.v (.int .i64 c.fx),.v (.int .i64 c.ad),.v (.int .i64 c.ins),.x 2 [],.x 3 [],.x 4 [],.x 5 []] 27,.cells [.v (.int .i64 c.fx),.v (.int .i64 c.ad),.v (.int .i64 c.ins)] 140,.ext false (.s false 7 c.nodes.length (cN c.nodes)),.ext false (.s false 1 c.gates.length (cI c.gates)),.ext false (.s false 2 c.looks.length (cL c.looks)),.ext false (.s false 2 c.eqs.length (cK c.eqs))]⟩ K R)=W (bif decide ((↑k:Int)<(↑c.6.length:Int)) then(∀ M:Mem,(0:Int)≤(↑k:Int)∧(↑k:Int)<(↑c.6.length:Int))∧(∀ M:Mem,k<List.length c.6)∧(∀ M:Mem,0+2≤2)∧(∀ M:Mem,k<List.length c.6)∧bif decide ((↑(List.length (gL c.6 k).1):Int)<(1:Int)) then R (.v (qA 120)) [] else(∀ M:Mem,k<List.length c.6)∧bif decide ((4:Int)<(↑(List.length (gL c.6 k).1):Int)) then R (.v (qA 120)) [] else(∀ M:Mem,k<List.length c.6)∧(∀ M:Mem,k<List.length c.6)∧bif !(↑(List.length (gL c.6 k).2):Int)==(↑(List.length (gL c.6 k).1):Int) then R (.v (qA 120)) [] else K [.at [0,1,1,1,0,0,1,0,0,1,0,1,1,1,1,1,1,1],.blk 6,.blk 5,.at [1,1,0,0,1,0,1,1,1,1,1,1,1],.rnd [0,0,1,0,1,1,1,1,1,1,1] M,.blk 4,.at [1,1,1,1,1,1,1,1]] (St.mk [(9,.v (qA 0)),(8,.p 0 0),(7,.v (qA (↑k:Int))),(1,.p 1 0),(4,.p 2 0)] [.cells [.x 3 [(2,k,0)],.x 3 [(2,k,1)]] 76,.cells [.v (qA c.1),.v (qA c.2),.v (qA c.3),.x 4 [],.x 5 [],.x 3 [],.x 6 []] 27,.cells [.v (qA c.1),.v (qA c.2),.v (qA c.3)] 140,.ext false (.s false 2 c.6.length (cL c.6)),.ext false (.s false 7 c.4.length (cN c.4)),.ext false (.s false 1 c.5.length (cI c.5)),.ext false (.s false 2 c.7.length (cK c.7))]) else K [.at [0,1,0,1,1,1,1,1,1,1,1],.blk 8,.at [1,1,1,1,1,1,1,1,1]] (St.mk [(10,.v (qA 0)),(1,.p 0 0),(4,.p 1 0)] [.cells [.v (qA c.1),.v (qA c.2),.v (qA c.3),.x 2 [],.x 3 [],.x 4 [],.x 5 []] 27,.cells [.v (qA c.1),.v (qA c.2),.v (qA c.3)] 140,.ext false (.s false 7 c.4.length (cN c.4)),.ext false (.s false 1 c.5.length (cI c.5)),.ext false (.s false 2 c.6.length (cL c.6)),.ext false (.s false 2 c.7.length (cK c.7))])):=by kernel_rfl
theorem rk3(c:Cir)(i k M2 M:Nat)(K:List It→St→Prop)(R:SV→List HO→Prop):W (xwp Tryz.prog X K55 [] 60 (qO Tryz.f39 [] [⟨[0,1,0,1,1,1,1,1,1],[6,1,4],[]⟩,⟨[0,1,0,1,1,1,1,1,1,1],[7,1,4],[]⟩,⟨[0,1,1,1,0,0,1,0,0,1,0,1,1,1,1,1,1,1],[9,8,7,1,4],[]⟩,⟨[0,1,0,1,1,1,1,1,1,1,1],[10,1,4],[]⟩,⟨[0,1,1,1,0,0,1,0,0,1,0,1,1,1,1,1,1,1,1],[12,11,10,1,4],[]⟩]) [] (.at [0,0,1,1,1,0,0,1,0,0,1,0,1,1,1,1,1,1,1]::.rnd [0,0,1,1,1,0,0,1,0,0,1,0,1,1,1,1,1,1,1] M::[.blk 6,.blk 5,.at [1,1,0,0,1,0,1,1,1,1,1,1,1],.rnd [0,0,1,0,1,1,1,1,1,1,1] M2,.blk 4,.at [1,1,1,1,1,1,1,1]]) ⟨[(9,.v (.int .i64 (k:Int))),(8,.p 0 0),(7,.v (.int .i64 (i:Int))),(1,.p 1 0),(4,.p 2 0)],[.cells [.x 3 [(2,i,0)],.x 3 [(2,i,1)]] 76,.cells [.v (.int .i64 c.fx),.v (.int .i64 c.ad),.v (.int .i64 c.ins),.x 4 [],.x 5 [],.x 3 [],.x 6 []] 27,.cells [.v (.int .i64 c.fx),.v (.int .i64 c.ad),.v (.int .i64 c.ins)] 140,.ext false (.s false 2 c.looks.length (cL c.looks)),.ext false (.s false 7 c.nodes.length (cN c.nodes)),.ext false (.s false 1 c.gates.length (cI c.gates)),.ext false (.s false 2 c.eqs.length (cK c.eqs))]⟩ K R)=W ((∀ M:Mem,i<List.length c.6)∧bif decide ((↑k:Int)<(↑(List.length (gL c.6 i).1):Int)) then(∀ M:Mem,i<List.length c.6)∧(∀ M:Mem,(0:Int)≤(↑k:Int)∧(↑k:Int)<(↑(List.length (gL c.6 i).1):Int))∧(∀ M:Mem,i<List.length c.6)∧(∀ M:Mem,k<List.length (gL c.6 i).1)∧lC c.1 c.2 c.3 c.4.length c.5.length c.6.length c.7.length (cN c.4) (cI c.5) (cL c.6) (cK c.7) fun(c_1:Cir)=>bif !jM c_1 (gI (gL c.6 i).1 k) then R (.v (qA 120)) [] else(∀ M:Mem,i<List.length c.6)∧(∀ M:Mem,(0:Int)≤(↑k:Int)∧(↑k:Int)<(↑(List.length (gL c.6 i).2):Int))∧(∀ M:Mem,i<List.length c.6)∧(∀ M:Mem,k<List.length (gL c.6 i).2)∧lC c.1 c.2 c.3 c.4.length c.5.length c.6.length c.7.length (cN c.4) (cI c.5) (cL c.6) (cK c.7) fun(c_2:Cir)=>bif !jM c_2 (gI (gL c.6 i).2 k) then R (.v (qA 120)) [] else K [.rnd [0,0,1,1,1,0,0,1,0,0,1,0,1,1,1,1,1,1,1] M,.blk 6,.blk 5,.at [1,1,0,0,1,0,1,1,1,1,1,1,1],.rnd [0,0,1,0,1,1,1,1,1,1,1] M2,.blk 4,.at [1,1,1,1,1,1,1,1]] (St.mk [(9,.v (qA (IntKind.wrap .i64 ((↑k:Int)+(1:Int))))),(8,.p 0 0),(7,.v (qA (↑i:Int))),(1,.p 1 0),(4,.p 2 0)] [.cells [.x 3 [(2,i,0)],.x 3 [(2,i,1)]] 76,.cells [.v (qA c.1),.v (qA c.2),.v (qA c.3),.x 4 [],.x 5 [],.x 3 [],.x 6 []] 27,.cells [.v (qA c.1),.v (qA c.2),.v (qA c.3)] 140,.ext false (.s false 2 c.6.length (cL c.6)),.ext false (.s false 7 c.4.length (cN c.4)),.ext false (.s false 1 c.5.length (cI c.5)),.ext false (.s false 2 c.7.length (cK c.7))]) else K [.rnd [0,0,1,0,1,1,1,1,1,1,1] M2,.blk 4,.at [1,1,1,1,1,1,1,1]] (St.mk [(7,.v (qA (IntKind.wrap .i64 ((↑i:Int)+(1:Int))))),(1,.p 0 0),(4,.p 1 0)] [.cells [.v (qA c.1),.v (qA c.2),.v (qA c.3),.x 2 [],.x 3 [],.x 4 [],.x 5 []] 27,.cells [.v (qA c.1),.v (qA c.2),.v (qA c.3)] 140,.ext false (.s false 7 c.4.length (cN c.4)),.ext false (.s false 1 c.5.length (cI c.5)),.ext false (.s false 2 c.6.length (cL c.6)),.ext false (.s false 2 c.7.length (cK c.7))])):=by kernel_rfl
theorem rk4(c:Cir)(k M:Nat)(K:List It→St→Prop)(R:SV→List HO→Prop):W (xwp Tryz.prog X K55 [] 60 (qO Tryz.f39 [] [⟨[0,1,0,1,1,1,1,1,1],[6,1,4],[]⟩,⟨[0,1,0,1,1,1,1,1,1,1],[7,1,4],[]⟩,⟨[0,1,1,1,0,0,1,0,0,1,0,1,1,1,1,1,1,1],[9,8,7,1,4],[]⟩,⟨[0,1,0,1,1,1,1,1,1,1,1],[10,1,4],[]⟩,⟨[0,1,1,1,0,0,1,0,0,1,0,1,1,1,1,1,1,1,1],[12,11,10,1,4],[]⟩]) [.lo 1 (.v (.int .i64 (qMg c (gK c.eqs k).1)))] (.at [0,0,1,0,1,1,1,1,1,1,1,1]::.rnd [0,0,1,0,1,1,1,1,1,1,1,1] M::[.blk 8,.at [1,1,1,1,1,1,1,1,1]]) ⟨[(10,.v (.int .i64 (k:Int))),(1,.p 0 0),(4,.p 1 0)],[.cells [.v (.int .i64 c.fx),.v (.int .i64 c.ad),.v (.int .i64 c.ins),.x 2 [],.x 3 [],.x 4 [],.x 5 []] 27,.cells [.v (.int .i64 c.fx),.v (.int .i64 c.ad),.v (.int .i64 c.ins)] 140,.ext false (.s false 7 c.nodes.length (cN c.nodes)),.ext false (.s false 1 c.gates.length (cI c.gates)),.ext false (.s false 2 c.looks.length (cL c.looks)),.ext false (.s false 2 c.eqs.length (cK c.eqs))]⟩ K R)=W (bif decide ((↑k:Int)<(↑c.7.length:Int)) then(∀ M:Mem,(0:Int)≤(↑k:Int)∧(↑k:Int)<(↑c.7.length:Int))∧(∀ M:Mem,k<List.length c.7)∧(∀ M:Mem,0+2≤2)∧bif decide ((gK c.7 k).1<(2:Int)) then R (SV.v (qA 120)) [] else bif decide ((4:Int)<(gK c.7 k).1) then R (SV.v (qA 120)) [] else bif decide ((gK c.7 k).2<(0:Int)) then R (SV.v (qA 120)) [] else(∀ M:Mem,(0:Int)≤IntKind.wrap .i64 ((gK c.7 k).1-(2:Int))∧IntKind.wrap .i64 ((gK c.7 k).1-(2:Int))<(3:Int))∧(∀ M:Mem,[SV.v (qA c.1),SV.v (qA c.2),SV.v (qA c.3)][0+Int.toNat (IntKind.wrap .i64 ((gK c.7 k).1-(2:Int)))*1]?=some (SV.v (qA (qMg c (gK c.7 k).1))))∧bif decide (qMg c (gK c.7 k).1≤(gK c.7 k).2) then R (SV.v (qA 120)) [] else K [It.at [0,1,1,1,0,0,1,0,0,1,0,1,1,1,1,1,1,1,1],It.blk 10,It.blk 9,It.at [1,1,0,0,1,0,1,1,1,1,1,1,1,1],It.rnd [0,0,1,0,1,1,1,1,1,1,1,1] M,It.blk 8,It.at [1,1,1,1,1,1,1,1,1]] (St.mk [(12,SV.v (qA 0)),(11,SV.p 0 0),(10,SV.v (qA (↑k:Int))),(1,SV.p 1 0),(4,SV.p 2 0)] [HO.cells [SV.v (qA (gK c.7 k).1),SV.v (qA (gK c.7 k).2)] 107,HO.cells [SV.v (qA c.1),SV.v (qA c.2),SV.v (qA c.3),SV.x 3 [],SV.x 4 [],SV.x 5 [],SV.x 6 []] 27,HO.cells [SV.v (qA c.1),SV.v (qA c.2),SV.v (qA c.3)] 140,HO.ext false (qB.s false 7 c.4.length (cN c.4)),HO.ext false (qB.s false 1 c.5.length (cI c.5)),HO.ext false (qB.s false 2 c.6.length (cL c.6)),HO.ext false (qB.s false 2 c.7.length (cK c.7))]) else lC c.1 c.2 c.3 c.4.length c.5.length c.6.length c.7.length (cN c.4) (cI c.5) (cL c.6) (cK c.7) fun(c:Cir)=>(qAw c (qM c.4)∧∀(x:List Int×List Int),x∈c.6→List.length x.2=List.length x.1)∧bif decide ((8:Int)<qDl c (qM c.4)) then R (SV.v (qA 120)) [] else R (SV.v (qA 0)) []):=by kernel_rfl
theorem rk5(c:Cir)(i k M2 M:Nat)(K:List It→St→Prop)(R:SV→List HO→Prop):W (xwp Tryz.prog X K55 [] 60 (qO Tryz.f39 [] [⟨[0,1,0,1,1,1,1,1,1],[6,1,4],[]⟩,⟨[0,1,0,1,1,1,1,1,1,1],[7,1,4],[]⟩,⟨[0,1,1,1,0,0,1,0,0,1,0,1,1,1,1,1,1,1],[9,8,7,1,4],[]⟩,⟨[0,1,0,1,1,1,1,1,1,1,1],[10,1,4],[]⟩,⟨[0,1,1,1,0,0,1,0,0,1,0,1,1,1,1,1,1,1,1],[12,11,10,1,4],[]⟩]) [] (.at [0,0,1,1,1,0,0,1,0,0,1,0,1,1,1,1,1,1,1,1]::.rnd [0,0,1,1,1,0,0,1,0,0,1,0,1,1,1,1,1,1,1,1] M::[.blk 10,.blk 9,.at [1,1,0,0,1,0,1,1,1,1,1,1,1,1],.rnd [0,0,1,0,1,1,1,1,1,1,1,1] M2,.blk 8,.at [1,1,1,1,1,1,1,1,1]]) ⟨[(12,.v (.int .i64 (k:Int))),(11,.p 0 0),(10,.v (.int .i64 (i:Int))),(1,.p 1 0),(4,.p 2 0)],[.cells [.v (.int .i64 (gK c.eqs i).1),.v (.int .i64 (gK c.eqs i).2)] 107,.cells [.v (.int .i64 c.fx),.v (.int .i64 c.ad),.v (.int .i64 c.ins),.x 3 [],.x 4 [],.x 5 [],.x 6 []] 27,.cells [.v (.int .i64 c.fx),.v (.int .i64 c.ad),.v (.int .i64 c.ins)] 140,.ext false (.s false 7 c.nodes.length (cN c.nodes)),.ext false (.s false 1 c.gates.length (cI c.gates)),.ext false (.s false 2 c.looks.length (cL c.looks)),.ext false (.s false 2 c.eqs.length (cK c.eqs))]⟩ K R)=W (bif decide ((↑k:Int)<(↑i:Int)) then(∀ M:Mem,(0:Int)≤(↑k:Int)∧(↑k:Int)<(↑c.7.length:Int))∧(∀ M:Mem,k<List.length c.7)∧bif decide ([(gK c.7 k).1,(gK c.7 k).2]=[(gK c.7 i).1,(gK c.7 i).2]) then R (.v (qA 120)) [] else K [.rnd [0,0,1,1,1,0,0,1,0,0,1,0,1,1,1,1,1,1,1,1] M,.blk 10,.blk 9,.at [1,1,0,0,1,0,1,1,1,1,1,1,1,1],.rnd [0,0,1,0,1,1,1,1,1,1,1,1] M2,.blk 8,.at [1,1,1,1,1,1,1,1,1]] (St.mk [(12,.v (qA (IntKind.wrap .i64 ((↑k:Int)+(1:Int))))),(11,.p 0 0),(10,.v (qA (↑i:Int))),(1,.p 1 0),(4,.p 2 0)] [.cells [.v (qA (gK c.7 i).1),.v (qA (gK c.7 i).2)] 107,.cells [.v (qA c.1),.v (qA c.2),.v (qA c.3),.x 3 [],.x 4 [],.x 5 [],.x 6 []] 27,.cells [.v (qA c.1),.v (qA c.2),.v (qA c.3)] 140,.ext false (.s false 7 c.4.length (cN c.4)),.ext false (.s false 1 c.5.length (cI c.5)),.ext false (.s false 2 c.6.length (cL c.6)),.ext false (.s false 2 c.7.length (cK c.7))]) else K [.rnd [0,0,1,0,1,1,1,1,1,1,1,1] M2,.blk 8,.at [1,1,1,1,1,1,1,1,1]] (St.mk [(10,.v (qA (IntKind.wrap .i64 ((↑i:Int)+(1:Int))))),(1,.p 0 0),(4,.p 1 0)] [.cells [.v (qA c.1),.v (qA c.2),.v (qA c.3),.x 2 [],.x 3 [],.x 4 [],.x 5 []] 27,.cells [.v (qA c.1),.v (qA c.2),.v (qA c.3)] 140,.ext false (.s false 7 c.4.length (cN c.4)),.ext false (.s false 1 c.5.length (cI c.5)),.ext false (.s false 2 c.6.length (cL c.6)),.ext false (.s false 2 c.7.length (cK c.7))])):=by kernel_rfl
theorem zIn(c:Cir)(hc:c.ok)(i M2:Nat)(hi:i<c.eqs.length)(Q:SV→List HO→Prop)(no:(∃ j,j<i∧gK c.eqs j=gK c.eqs i)→Q (.v (.int .i64 120)) [])(next:(¬ ∃ j,j<i∧gK c.eqs j=gK c.eqs i)→FOk Tryz.prog Tryz.f39 Q (.rnd [0,0,1,0,1,1,1,1,1,1,1,1] M2::[.blk 8,.at [1,1,1,1,1,1,1,1,1]]) ⟨[(10,.v (.int .i64 ((i+1:Nat):Int))),(1,.p 0 0),(4,.p 1 0)],[.cells [.v (.int .i64 c.fx),.v (.int .i64 c.ad),.v (.int .i64 c.ins),.x 2 [],.x 3 [],.x 4 [],.x 5 []] 27,.cells [.v (.int .i64 c.fx),.v (.int .i64 c.ad),.v (.int .i64 c.ins)] 140,.ext false (.s false 7 c.nodes.length (cN c.nodes)),.ext false (.s false 1 c.gates.length (cI c.gates)),.ext false (.s false 2 c.looks.length (cL c.looks)),.ext false (.s false 2 c.eqs.length (cK c.eqs))]⟩):∀(d k:Nat),k+d=i→(∀ j,j<k→gK c.eqs j≠gK c.eqs i) →
  FOk Tryz.prog Tryz.f39 Q (.rnd [0,0,1,1,1,0,0,1,0,0,1,0,1,1,1,1,1,1,1,1] (d+1)::[.blk 10,.blk 9,.at [1,1,0,0,1,0,1,1,1,1,1,1,1,1],.rnd [0,0,1,0,1,1,1,1,1,1,1,1] M2,.blk 8,.at [1,1,1,1,1,1,1,1,1]]) ⟨[(12,.v (.int .i64 (k:Int))),(11,.p 0 0),(10,.v (.int .i64 (i:Int))),(1,.p 1 0),(4,.p 2 0)],[.cells [.v (.int .i64 (gK c.eqs i).1),.v (.int .i64 (gK c.eqs i).2)] 107,.cells [.v (.int .i64 c.fx),.v (.int .i64 c.ad),.v (.int .i64 c.ins),.x 3 [],.x 4 [],.x 5 [],.x 6 []] 27,.cells [.v (.int .i64 c.fx),.v (.int .i64 c.ad),.v (.int .i64 c.ins)] 140,.ext false (.s false 7 c.nodes.length (cN c.nodes)),.ext false (.s false 1 c.gates.length (cI c.gates)),.ext false (.s false 2 c.looks.length (cL c.looks)),.ext false (.s false 2 c.eqs.length (cK c.eqs))]⟩
 | 0,k,hd,he=>by
  have h1:=hc.e.2
  refine FOk.rnd (qC hm 60 ((rk5 c i k M2 0 _ _).mpr ⟨?_⟩))
  rw[qD,if_neg (by omega),qK i (by omega)]
  exact next fun⟨j,hj,e⟩=>he j (by omega) e
 | d+1,k,hd,he=>by
  have h1:=hc.e.2
  refine FOk.rnd (qC hm 60 ((rk5 c i k M2 (d+1) _ _).mpr ⟨?_⟩))
  rw[qD,if_pos (by omega),qK k (by omega),qD]
  refine aI (aI (qG (fun h=>?_) (fun h=>?_)))
  ·exact no ⟨k,by omega,qRu.1 h⟩
  ·refine zIn c hc i M2 hi Q no next d (k+1) (by omega) fun j hj=>?_
   by_cases hjk:j=k
   ·rw[hjk]; exact fun e=>h (qRu.2 e)
   ·exact he j (by omega)
theorem zCn(c:Cir)(hc:c.ok)(h0:qAa c.nodes c.fx c.ad c.ins=0)(hct:qIs c=true)(hg:c.gates.any (fun n=>!yJ c n)=false)(hl:c.looks.any (fun x=>!jI c x)=false)(Q:SV→List HO→Prop)(yes:jP c=true→Q (.v (.int .i64 0)) [])(no:jP c=false→Q (.v (.int .i64 120)) []):∀(d k:Nat),k+d=c.eqs.length→eqF c [] c.eqs=eqF c (c.eqs.take k) (c.eqs.drop k) →
  FOk Tryz.prog Tryz.f39 Q (.rnd [0,0,1,0,1,1,1,1,1,1,1,1] (d+1)::[.blk 8,.at [1,1,1,1,1,1,1,1,1]]) ⟨[(10,.v (.int .i64 (k:Int))),(1,.p 0 0),(4,.p 1 0)],[.cells [.v (.int .i64 c.fx),.v (.int .i64 c.ad),.v (.int .i64 c.ins),.x 2 [],.x 3 [],.x 4 [],.x 5 []] 27,.cells [.v (.int .i64 c.fx),.v (.int .i64 c.ad),.v (.int .i64 c.ins)] 140,.ext false (.s false 7 c.nodes.length (cN c.nodes)),.ext false (.s false 1 c.gates.length (cI c.gates)),.ext false (.s false 2 c.looks.length (cL c.looks)),.ext false (.s false 2 c.eqs.length (cK c.eqs))]⟩
 | 0,k,hd,he=>by
  refine FOk.rnd (qC hm 60 ((rk4 c k 0 _ _).mpr ⟨?_⟩))
  rw[qD,if_neg (by omega)]
  rw[show k=c.eqs.length by omega,List.drop_length,eqF] at he
  refine qBt c hc ⟨⟨qTq h0 hg hl,fun x hx=>(qIv (qHi hl x hx)).2.2.2.2⟩,?_⟩
  rw[qD]
  refine qG (fun h=>no ?_) (fun h=>yes ?_)
  ·rw[jP,decide_eq_false (by omega)]; simp
  ·rw[jP,hct,hg,hl,he,decide_eq_true (by omega)]; rfl
 | d+1,k,hd,he=>by
  have hk:k<c.eqs.length:=by omega
  rw[qYq hk,eqF] at he
  have bad:(okK c (gK c.eqs k)&&!decide (gK c.eqs k∈c.eqs.take k))=false→Q (.v (.int .i64 120)) []:=fun h=>no (by rw[jP,he,h]; simp)
  refine FOk.rnd (qC hm 60 ((rk4 c k (d+1) _ _).mpr ⟨?_⟩))
  rw[qD,if_pos (by omega)]
  simp only[qD]
  refine aI (aI (aI (qG (fun h1=>bad ?_) (fun h1=>qG (fun h2=>bad ?_) (fun h2=>qG (fun h3=>bad ?_) (fun h3=>And.intro (fun _=>?_) (And.intro (fun _=>?_) (qG (fun h4=>bad ?_) (fun h4=>?_)))))))))
  ·rw[okK,decide_eq_false (by omega)]; rfl
  ·rw[okK,decide_eq_false (by omega)]; rfl
  ·rw[okK,decide_eq_false (by omega)]; rfl
  ·rw[zE ((gK c.eqs k).1-2) (by omega)]; omega
  ·exact zLi c (by omega) (by omega)
  ·rw[okK,decide_eq_false (by omega)]; rfl
  ·refine FOk.loop (k+1) (by kernel_rfl) (zIn c hc k (d+1) hk Q (fun hx=>bad ?_) (fun hx=>?_) k 0 (by omega) (fun j hj=>by omega))
   ·rw[decide_eq_true ((qPc hk).2 hx)]; simp
   ·refine zCn c hc h0 hct hg hl Q yes no d (k+1) (by omega) ?_
    rw[he,okK,decide_eq_true (by omega),decide_eq_false (fun hh=>hx ((qPc hk).1 hh)),qRs hk]; rfl
theorem zDz(c:Cir)(hc:c.ok)(i M2:Nat)(hi:i<c.looks.length)(hA:1≤(gL c.looks i).1.length∧(gL c.looks i).1.length≤4∧(gL c.looks i).2.length=(gL c.looks i).1.length)(Q:SV→List HO→Prop)(no:jI c (gL c.looks i)=false→Q (.v (.int .i64 120)) [])(next:jI c (gL c.looks i)=true→FOk Tryz.prog Tryz.f39 Q (.rnd [0,0,1,0,1,1,1,1,1,1,1] M2::[.blk 4,.at [1,1,1,1,1,1,1,1]]) ⟨[(7,.v (.int .i64 ((i+1:Nat):Int))),(1,.p 0 0),(4,.p 1 0)],[.cells [.v (.int .i64 c.fx),.v (.int .i64 c.ad),.v (.int .i64 c.ins),.x 2 [],.x 3 [],.x 4 [],.x 5 []] 27,.cells [.v (.int .i64 c.fx),.v (.int .i64 c.ad),.v (.int .i64 c.ins)] 140,.ext false (.s false 7 c.nodes.length (cN c.nodes)),.ext false (.s false 1 c.gates.length (cI c.gates)),.ext false (.s false 2 c.looks.length (cL c.looks)),.ext false (.s false 2 c.eqs.length (cK c.eqs))]⟩):∀(d k:Nat),k+d=(gL c.looks i).1.length→((gL c.looks i).1.take k).any (fun n=>!jM c n)=false→((gL c.looks i).2.take k).any (fun n=>!jM c n)=false →
  FOk Tryz.prog Tryz.f39 Q (.rnd [0,0,1,1,1,0,0,1,0,0,1,0,1,1,1,1,1,1,1] (d+1)::[.blk 6,.blk 5,.at [1,1,0,0,1,0,1,1,1,1,1,1,1],.rnd [0,0,1,0,1,1,1,1,1,1,1] M2,.blk 4,.at [1,1,1,1,1,1,1,1]]) ⟨[(9,.v (.int .i64 (k:Int))),(8,.p 0 0),(7,.v (.int .i64 (i:Int))),(1,.p 1 0),(4,.p 2 0)],[.cells [.x 3 [(2,i,0)],.x 3 [(2,i,1)]] 76,.cells [.v (.int .i64 c.fx),.v (.int .i64 c.ad),.v (.int .i64 c.ins),.x 4 [],.x 5 [],.x 3 [],.x 6 []] 27,.cells [.v (.int .i64 c.fx),.v (.int .i64 c.ad),.v (.int .i64 c.ins)] 140,.ext false (.s false 2 c.looks.length (cL c.looks)),.ext false (.s false 7 c.nodes.length (cN c.nodes)),.ext false (.s false 1 c.gates.length (cI c.gates)),.ext false (.s false 2 c.eqs.length (cK c.eqs))]⟩
 | 0,k,hd,e1,e2=>by
  have h1:=hc.l.2
  refine FOk.rnd (qC hm 60 ((rk3 c i k M2 0 _ _).mpr ⟨?_⟩))
  refine And.intro (fun _=>hi) ?_
  rw[qD,if_neg (by omega),qK i (by omega)]
  rw[show k=(gL c.looks i).1.length by omega,List.take_length] at e1
  rw[show k=(gL c.looks i).2.length by omega,List.take_length] at e2
  exact next (by rw[jI,e1,e2,decide_eq_true hA]; rfl)
 | d+1,k,hd,e1,e2=>by
  have hk:k<(gL c.looks i).1.length:=by omega
  have hk2:k<(gL c.looks i).2.length:=by omega
  refine FOk.rnd (qC hm 60 ((rk3 c i k M2 (d+1) _ _).mpr ⟨?_⟩))
  refine And.intro (fun _=>hi) ?_
  rw[qD,if_pos (by omega),qK k (by omega)]
  refine aI (aI (aI (aI (qBt c hc (qJ (fun h=>no ?_) (fun h=>aI (aI (aI (aI (qBt c hc (qJ (fun h2=>no ?_) (fun h2=>?_))))))))))))
  ·rw[jI,qSk (qAt hk) h]; simp
  ·rw[jI,qSk (qAt hk2) h2]; simp
  ·exact zDz c hc i M2 hi hA Q no next d (k+1) (by omega) (by rw[qIl hk,e1,h]; rfl) (by rw[qIl hk2,e2,h2]; rfl)
theorem qUd(c:Cir)(hc:c.ok)(h0:qAa c.nodes c.fx c.ad c.ins=0)(hct:qIs c=true)(hg:c.gates.any (fun n=>!yJ c n)=false)(Q:SV→List HO→Prop)(yes:jP c=true→Q (.v (.int .i64 0)) [])(no:jP c=false→Q (.v (.int .i64 120)) []):∀(d k:Nat),k+d=c.looks.length→(c.looks.take k).any (fun x=>!jI c x)=false →
  FOk Tryz.prog Tryz.f39 Q (.rnd [0,0,1,0,1,1,1,1,1,1,1] (d+1)::[.blk 4,.at [1,1,1,1,1,1,1,1]]) ⟨[(7,.v (.int .i64 (k:Int))),(1,.p 0 0),(4,.p 1 0)],[.cells [.v (.int .i64 c.fx),.v (.int .i64 c.ad),.v (.int .i64 c.ins),.x 2 [],.x 3 [],.x 4 [],.x 5 []] 27,.cells [.v (.int .i64 c.fx),.v (.int .i64 c.ad),.v (.int .i64 c.ins)] 140,.ext false (.s false 7 c.nodes.length (cN c.nodes)),.ext false (.s false 1 c.gates.length (cI c.gates)),.ext false (.s false 2 c.looks.length (cL c.looks)),.ext false (.s false 2 c.eqs.length (cK c.eqs))]⟩
 | 0,k,hd,he=>by
  refine FOk.rnd (qC hm 60 ((rk2 c k 0 _ _).mpr ⟨?_⟩))
  rw[qD,if_neg (by omega)]
  rw[show k=c.looks.length by omega,List.take_length] at he
  exact FOk.loop (c.eqs.length+1) (by kernel_rfl) (zCn c hc h0 hct hg he Q yes no c.eqs.length 0 (by omega) rfl)
 | d+1,k,hd,he=>by
  have hk:k<c.looks.length:=by omega
  have bad:jI c (gL c.looks k)=false→Q (.v (.int .i64 120)) []:=fun h=>no (by
   have:c.looks.any (fun x=>!jI c x)=true:=qSk (qCt hk) (by rw[h]; rfl)
   rw[jP,this]; simp)
  refine FOk.rnd (qC hm 60 ((rk2 c k (d+1) _ _).mpr ⟨?_⟩))
  rw[qD,if_pos (by omega)]
  simp only[qD,qV,zC]
  refine aI (aI (aI (aI (qG (fun h1=>bad ?_) (fun h1=>aI (qG (fun h2=>bad ?_) (fun h2=>aI (aI (qG (fun h3=>?_) (fun h3=>bad ?_))))))))))
  ·rw[jI,decide_eq_false (by omega)]; rfl
  ·rw[jI,decide_eq_false (by omega)]; rfl
  ·exact FOk.loop ((gL c.looks k).1.length+1) (by kernel_rfl) (zDz c hc k (d+1) hk ⟨by omega,by omega,by omega⟩ Q bad (fun h=>qUd c hc h0 hct hg Q yes no d (k+1) (by omega) (by rw[zAk hk,he,h]; rfl)) (gL c.looks k).1.length 0 (by omega) rfl rfl)
  ·rw[jI,decide_eq_false (by omega)]; rfl
theorem qTd(c:Cir)(hc:c.ok)(h0:qAa c.nodes c.fx c.ad c.ins=0)(hct:qIs c=true)(Q:SV→List HO→Prop)(yes:jP c=true→Q (.v (.int .i64 0)) [])(no:jP c=false→Q (.v (.int .i64 120)) []):∀(d k:Nat),k+d=c.gates.length→(c.gates.take k).any (fun n=>!yJ c n)=false →
  FOk Tryz.prog Tryz.f39 Q (.rnd [0,0,1,0,1,1,1,1,1,1] (d+1)::[.blk 2,.at [1,1,1,1,1,1,1]]) ⟨[(6,.v (.int .i64 (k:Int))),(1,.p 0 0),(4,.p 1 0)],[.cells [.v (.int .i64 c.fx),.v (.int .i64 c.ad),.v (.int .i64 c.ins),.x 2 [],.x 3 [],.x 4 [],.x 5 []] 27,.cells [.v (.int .i64 c.fx),.v (.int .i64 c.ad),.v (.int .i64 c.ins)] 140,.ext false (.s false 7 c.nodes.length (cN c.nodes)),.ext false (.s false 1 c.gates.length (cI c.gates)),.ext false (.s false 2 c.looks.length (cL c.looks)),.ext false (.s false 2 c.eqs.length (cK c.eqs))]⟩
 | 0,k,hd,he=>by
  refine FOk.rnd (qC hm 60 ((rk1 c k 0 _ _).mpr ⟨?_⟩))
  rw[qD,if_neg (by omega)]
  rw[show k=c.gates.length by omega,List.take_length] at he
  exact FOk.loop (c.looks.length+1) (by kernel_rfl) (qUd c hc h0 hct he Q yes no c.looks.length 0 (by omega) rfl)
 | d+1,k,hd,he=>by
  have hk:k<c.gates.length:=by omega
  have h1:=hc.g.2
  have bad:yJ c (gI c.gates k)=false→Q (.v (.int .i64 120)) []:=fun h=>no (by
   have:c.gates.any (fun n=>!yJ c n)=true:=qSk (qAt hk) (by rw[h]; rfl)
   rw[jP,this]; simp)
  refine FOk.rnd (qC hm 60 ((rk1 c k (d+1) _ _).mpr ⟨?_⟩))
  rw[qD,if_pos (by omega),qK k (by omega)]
  simp only[qD,qV]
  refine aI (aI (qG (fun h1=>qG (fun h2=>?_) (fun h2=>bad (decide_eq_false (by omega)))) (fun h1=>bad (decide_eq_false (by omega)))))
  exact qTd c hc h0 hct Q yes no d (k+1) (by omega) (by rw[qIl hk,he,yJ,decide_eq_true ⟨h1,h2⟩]; rfl)
theorem bRk:Tryz.f39.body.isSome=true:=by kernel_rfl
theorem nRk(c:Cir):Nat.ble [(.agg [.v (.int .i64 c.fx),.v (.int .i64 c.ad),.v (.int .i64 c.ins),.x 0 [],.x 1 [],.x 2 [],.x 3 []]:SV)].length Tryz.f39.ntmps=true:=by kernel_rfl
theorem zRz(c:Cir)(hc:c.ok)(Q:SV→List HO→Prop)(hq:Q (.v (.int .i64 (wM c))) []):qI Tryz.prog 39 [.agg [.v (.int .i64 c.fx),.v (.int .i64 c.ad),.v (.int .i64 c.ins),.x 0 [],.x 1 [],.x 2 [],.x 3 []]] [.ext false (.s false 7 c.nodes.length (cN c.nodes)),.ext false (.s false 1 c.gates.length (cI c.gates)),.ext false (.s false 2 c.looks.length (cL c.looks)),.ext false (.s false 2 c.eqs.length (cK c.eqs))] Q:=by
 refine qL Tryz.func39 bRk ?_ ?_
 ·exact nRk c
 have h1:=hc.n.2
 refine qC hm 60 ((rkS c _ _).mpr ⟨?_⟩)
 refine⟨c.nodes,rfl,IsC.refl _ _ _,by omega,?_⟩
 simp only[qD,qV,zC]
 refine qG (fun h0=>?_) (fun h0=>?_)
 ·have no:jP c=false→Q (.v (.int .i64 120)) []:=fun h=>by
   rw[(qTg h0 h).1] at hq
   exact hq
  have yes:jP c=true→Q (.v (.int .i64 0)) []:=fun h=>by
   rw[(qOr h0 h).1] at hq
   exact hq
  have bad:¬ qHf c→Q (.v (.int .i64 120)) []:=fun h=>no (by rw[jP,qIs,decide_eq_false h]; rfl)
  have go:qHf c→FOk Tryz.prog Tryz.f39 Q (.rnd [0,0,1,0,1,1,1,1,1,1] (c.gates.length+1)::[.blk 2,.at [1,1,1,1,1,1,1]]) ⟨[(6,.v (.int .i64 ((0:Nat):Int))),(1,.p 0 0),(4,.p 1 0)],[.cells [.v (.int .i64 c.fx),.v (.int .i64 c.ad),.v (.int .i64 c.ins),.x 2 [],.x 3 [],.x 4 [],.x 5 []] 27,.cells [.v (.int .i64 c.fx),.v (.int .i64 c.ad),.v (.int .i64 c.ins)] 140,.ext false (.s false 7 c.nodes.length (cN c.nodes)),.ext false (.s false 1 c.gates.length (cI c.gates)),.ext false (.s false 2 c.looks.length (cL c.looks)),.ext false (.s false 2 c.eqs.length (cK c.eqs))]⟩:=fun h =>
   qTd c hc h0 (decide_eq_true h) Q yes no c.gates.length 0 (by omega) rfl
  unfold qHf at bad go
  clear hq yes no
  repeat' (first | refine And.intro (fun _=>by omega) ?_ | refine qG (fun _=>?_) (fun _=>?_))
  all_goals first
   | (refine bad (fun h=>?_); omega)
   | exact FOk.loop (c.gates.length+1) (by kernel_rfl) (go (by omega))
 ·rw[wM,if_neg h0] at hq
  exact hq
noncomputable def gRk:List SV→List HO→Option ((SV→List HO→Prop)→Prop)
 | [.agg [.v (.int .i64 fx),.v (.int .i64 ad),.v (.int .i64 ins),.x 0 [],.x 1 [],.x 2 [],.x 3 []]],[.ext false (.s false 7 n0 c0),.ext false (.s false 1 n1 c1),.ext false (.s false 2 n2 c2),.ext false (.s false 2 n3 c3)] =>
  some fun Q=>lC fx ad ins n0 n1 n2 n3 c0 c1 c2 c3 fun c=>Q (.v (.int .i64 (wM c))) []
 | _,_=>none
theorem zKt(args:List SV)(h:List HO)(tr:(SV→List HO→Prop)→Prop)(Q:SV→List HO→Prop)(hc:gRk args h=some tr)(ht:tr Q):qI Tryz.prog 39 args h Q:=by
 unfold gRk at hc
 split at hc
 ·rename_i fx ad ins n0 c0 n1 c1 n2 c2 n3 c3
  simp only[sI] at hc
  subst hc
  obtain⟨c,rfl,rfl,rfl,⟨rfl,e0⟩,⟨rfl,e1⟩,⟨rfl,e2⟩,⟨rfl,e3⟩,hk,hq⟩:=ht.h
  exact qI.ac (zRz c hk Q hq) ⟨⟨rfl,rfl,rfl,rfl,e0⟩,⟨rfl,rfl,rfl,rfl,e1⟩,⟨rfl,rfl,rfl,rfl,e2⟩,⟨rfl,rfl,rfl,rfl,e3⟩,trivial⟩
 ·cases hc
noncomputable def K56:Con Tryz.prog:=K55.add 39 gRk zKt
end Go.Proofs.YtlmjdcbhpffanaaGreat
/- Degree and Rows, by the document; great. -/
namespace Go.Pl
open Go.Sx
theorem zBb{c:Cir}(h:wM c=0):qAa c.nodes c.fx c.ad c.ins=0∧jP c=true:=by
 rw[wM] at h
 split at h
 ·rename_i h0
  refine⟨h0,?_⟩
  cases hg:jP c with
  | true=>rfl
  | false=>rw[hg] at h; cases h
 ·rename_i h0; exact absurd h h0
theorem zAq{c:Cir}(h:jP c=true):qIs c=true∧c.gates.any (fun n=>!yJ c n)=false∧c.looks.any (fun x=>!jI c x)=false∧eqF c [] c.eqs=true∧qDl c (qM c.nodes)≤8:=by
 simp only[jP,Bool.and_eq_true,Bool.not_eq_true',decide_eq_true_eq] at h
 exact⟨h.1.1.1.1,h.1.1.1.2,h.1.1.2,h.1.2,h.2⟩
end Go.Pl
namespace Go.Proofs.YtlmjdcbhpffanaaGreat
open Go.Sx Go.Pl
set_option linter.unusedVariables false
set_option maxRecDepth 100000
noncomputable def K57:Con Tryz.prog:=K56
end Go.Proofs.YtlmjdcbhpffanaaGreat
/- Tables and sheets; elements copied as frozen memory. -/
namespace Go.Pl
open Go.Sx
def gT(l:List (List Nat))(k:Nat):List Nat:=l.getD k []
noncomputable def zIl(x:List Nat)(_:Nat):qB:=.s false 4 x.length (cE x)
noncomputable def cT(l:List (List Nat)):Nat→Nat→qB:=fun k j=>zIl (gT l k) j
def dP:Int×Int×Int×Int:=(0,0,0,0)
def gP(l:List (Int×Int×Int×Int))(k:Nat):Int×Int×Int×Int:=l.getD k dP
def zIx(x:Int×Int×Int×Int)(j:Nat):qB :=
 match j with
 | 0=>.v (.int .i64 x.1)
 | 1=>.v (.int .i64 x.2.1)
 | 2=>.v (.int .i64 x.2.2.1)
 | 3=>.v (.int .i64 x.2.2.2)
 | _=>.v undef
def cP(l:List (Int×Int×Int×Int)):Nat→Nat→qB:=fun k j=>zIx (gP l k) j
structure Sht where
 fx:List (List Nat)
 ad:List (List Nat)
 is:List (List Nat)
 cp:List (Int×Int×Int×Int)
def okT(l:List (List Nat)):Prop:=(∀ x∈l,(∀ v∈x,v<top)∧x.length*32≤140737488351232)∧l.length*24≤140737488351232
structure Sht.ok (s:Sht):Prop where
 f:okT s.fx
 a:okT s.ad
 i:okT s.is
 c:(∀ x∈s.cp,i64 x.1∧i64 x.2.1∧i64 x.2.2.1∧i64 x.2.2.2)∧s.cp.length*32≤140737488351232
structure lT (n:Nat) (c:Nat→Nat→qB) (k:List (List Nat)→Prop):Prop where
 h:∃ l:List (List Nat),n=l.length∧IsC n 1 c (cT l)∧okT l∧k l
theorem qDe{l:List (List Nat)}(h:okT l){k:List (List Nat)→Prop}(hk:k l):lT l.length (cT l) k:=⟨⟨l,rfl,IsC.refl _ _ _,h,hk⟩⟩
structure lS (n0 n1 n2 n3:Nat) (c0 c1 c2 c3:Nat→Nat→qB) (k:Sht→Prop):Prop where
 h:∃ s:Sht,(n0=s.fx.length∧IsC n0 1 c0 (cT s.fx))∧(n1=s.ad.length∧IsC n1 1 c1 (cT s.ad))∧(n2=s.is.length∧IsC n2 1 c2 (cT s.is))∧(n3=s.cp.length∧IsC n3 4 c3 (cP s.cp))∧s.ok∧k s
theorem zIr(s:Sht)(hs:s.ok){k:Sht→Prop}(h:k s):lS s.fx.length s.ad.length s.is.length s.cp.length (cT s.fx) (cT s.ad) (cT s.is) (cP s.cp) k :=
 ⟨⟨s,⟨rfl,IsC.refl _ _ _⟩,⟨rfl,IsC.refl _ _ _⟩,⟨rfl,IsC.refl _ _ _⟩,⟨rfl,IsC.refl _ _ _⟩,hs,h⟩⟩
theorem qZb{l:List (List Nat)}{k:Nat}(a:List Nat)(h:l.length=k):IsC (k+1) 1 (Ct.app k (.fn (cT l)) (.lit 1 [.s false 4 a.length (cE a)])).at (Ct.fn (cT (l++[a]))).at:=by
 subst h
 exact xQ zIl [] 1 l a _ fun j hj=>by
  match j,hj with
  | 0,_=>rfl
theorem qKu{l:List (List Nat)}{k:Nat}(h:k<l.length):gT l k∈l:=by
 rw[gT,List.getD_eq_getElem?_getD,List.getElem?_eq_getElem h]
 exact List.getElem_mem h
theorem qRj{l:List (List Nat)}{k:Nat}(h:k<l.length):l.take (k+1)=l.take k++[gT l k]:=by
 rw[List.take_add_one,List.getElem?_eq_getElem h,gT,List.getD_eq_getElem?_getD,List.getElem?_eq_getElem h]; rfl
end Go.Pl
namespace Go.Proofs.YtlmjdcbhpffanaaGreat
open Go.Sx Go.Pl
set_option linter.unusedVariables false
set_option maxRecDepth 100000
theorem zPp(all:List Nat)(hb:all.length≤4398046511104)(Q:SV→List HO→Prop)(hq:Q (.x 0 []) [.ext false (.s false 4 all.length (cE all))]):qI Tryz.prog 34 [.x 0 []] [.ext false (.s false 4 all.length (cE all))] Q:=by
 have h:=qI.gc (r1:=.x 0 []) (h1:=[.ext false (.s false 4 all.length (cE all))]) rfl (qI.frz1 0 rfl (zIj all hb (fun r h'=>r=.o 0∧h'=[.rowc 53 4 all.length (.fn (cE all))]) ⟨rfl,rfl⟩))
 exact qI.mono h fun r h' hh=>by rw[hh.1,hh.2]; exact hq
noncomputable def zEu:List SV→List HO→Option ((SV→List HO→Prop)→Prop)
 | [.x 0 []],[.ext false (.s false 4 n c)]=>some fun Q=>lE n c fun l=>Q (.x 0 []) [.ext false (.s false 4 l.length (cE l))]
 | _,_=>none
theorem zDx(args:List SV)(h:List HO)(tr:(SV→List HO→Prop)→Prop)(Q:SV→List HO→Prop)(hc:zEu args h=some tr)(ht:tr Q):qI Tryz.prog 34 args h Q:=by
 unfold zEu at hc
 split at hc
 ·simp only[sI] at hc
  subst hc
  obtain⟨l,rfl,he,hb,hv,hq⟩:=ht.h
  exact qI.ac (zPp l hb Q hq) ⟨⟨rfl,rfl,rfl,rfl,he⟩,trivial⟩
 ·cases hc
noncomputable def zPc:Con Tryz.prog:=K57.add 34 zEu zDx
end Go.Proofs.YtlmjdcbhpffanaaGreat
/- A table as new memory. -/
namespace Go.Proofs.YtlmjdcbhpffanaaGreat
open Go.Sx Go.Pl
set_option linter.unusedVariables false
set_option maxRecDepth 100000
theorem tbS(l:List (List Nat))(K:List It→St→Prop)(R:SV→List HO→Prop):W (xwp Tryz.prog X zPc [] 60 (qO Tryz.f35 [] [⟨[0,1,0,1,1],[4,3,0],[]⟩]) [] [.at []] ⟨qQ 0 [.x 0 []],[.ext false (.s false 1 l.length (cT l))]⟩ K R)=W (K [.at [0,1,0,1,1],.blk 0,.at [1,1,1]] (St.mk [(4,.v (qA 0)),(3,.o 0),(0,.x 1 [])] [.rowc 67 1 0 (.lit 1 []),.ext false (.s false 1 l.length (cT l))])):=by kernel_rfl
theorem tbR(l ls:List (List Nat))(m k M:Nat)(K:List It→St→Prop)(R:SV→List HO→Prop):W (xwp Tryz.prog X zPc [] 60 (qO Tryz.f35 [] [⟨[0,1,0,1,1],[4,3,0],[]⟩]) [] (.at [0,0,1,0,1,1]::.rnd [0,0,1,0,1,1] M::[.blk 0,.at [1,1,1]]) ⟨[(4,.v (.int .i64 (k:Int))),(3,.o 0),(0,.x 1 [])],[.rowc 67 1 m (.fn (cT ls)),.ext false (.s false 1 l.length (cT l))]⟩ K R)=W (bif decide ((↑k:Int)<(↑l.length:Int)) then(∀ M:Mem,(0:Int)≤(↑k:Int)∧(↑k:Int)<(↑l.length:Int))∧(∀ M:Mem,k<List.length l)∧(∀ M:Mem,k<List.length l)∧lE (List.length (gT l k)) (cE (gT l k)) fun(l_1:List Nat)=>(∀ M:Mem,(m+1)*24≤140737488355328∧m+1≤140737488355328)∧K [.rnd [0,0,1,0,1,1] M,.blk 0,.at [1,1,1]] (St.mk [(4,.v (qA (IntKind.wrap .i64 ((↑k:Int)+(1:Int))))),(3,.o 0),(0,.x 1 [])] [.rowc 67 1 (m+1) (.app m (.fn (cT ls)) (.lit 1 [.s false 4 l_1.length (cE l_1)])),.ext false (.s false 1 l.length (cT l))]) else R (.o 0) [.rowc 67 1 m (.fn (cT ls))]):=by kernel_rfl
theorem qZf(l:List (List Nat))(hl:okT l)(Q:SV→List HO→Prop)(hq:Q (.o 0) [.rowc 67 1 l.length (.fn (cT l))]):∀(d k:Nat) (ls:List (List Nat)),k+d=l.length→ls=l.take k →
  FOk Tryz.prog Tryz.f35 Q (.rnd [0,0,1,0,1,1] (d+1)::[.blk 0,.at [1,1,1]]) ⟨[(4,.v (.int .i64 (k:Int))),(3,.o 0),(0,.x 1 [])],[.rowc 67 1 k (.fn (cT ls)),.ext false (.s false 1 l.length (cT l))]⟩
 | 0,k,ls,hd,he=>by
  refine FOk.rnd (qC hm 60 ((tbR l ls k k 0 _ _).mpr ⟨?_⟩))
  rw[qD,if_neg (by omega)]
  rw[show k=l.length by omega,List.take_length] at he
  rw[he,show k=l.length by omega]
  exact hq
 | d+1,k,ls,hd,he=>by
  have hk:k<l.length:=by omega
  have h1:=hl.2
  obtain⟨g0,g1⟩:=hl.1 _ (qKu hk)
  have hlen:ls.length=k:=by rw[he,List.length_take]; omega
  refine FOk.rnd (qC hm 60 ((tbR l ls k k (d+1) _ _).mpr ⟨?_⟩))
  rw[qD,if_pos (by omega),qK _ (by omega)]
  refine aI (aI (And.intro (fun _=>by omega) ⟨⟨gT l k,rfl,IsC.refl _ _ _,by omega,g0,And.intro (fun _=>by omega) ?_⟩⟩))
  exact FOk.cv (qZf l hl Q hq d (k+1) (ls++[gT l k]) (by omega) (by rw[he,qRj hk])) ⟨⟨rfl,rfl,rfl,qZb _ hlen⟩,HE.refl _,trivial⟩
theorem bTb:Tryz.f35.body.isSome=true:=by kernel_rfl
theorem nTb:Nat.ble [SV.x 0 []].length Tryz.f35.ntmps=true:=by kernel_rfl
theorem zSn(l:List (List Nat))(hl:okT l)(Q:SV→List HO→Prop)(hq:Q (.x 0 []) [.ext false (.s false 1 l.length (cT l))]):qI Tryz.prog 35 [.x 0 []] [.ext false (.s false 1 l.length (cT l))] Q:=by
 have h0:qI Tryz.prog 35 [.x 0 []] [.ext false (.s false 1 l.length (cT l))] (fun r h'=>r=.o 0∧h'=[.rowc 67 1 l.length (.fn (cT l))]):=by
  refine qL Tryz.func35 bTb ?_ ?_
  ·exact nTb
  refine qC hm 60 ((tbS l _ _).mpr ⟨?_⟩)
  exact FOk.loop (l.length+1) (by kernel_rfl) (FOk.cv (qZf l hl _ ⟨rfl,rfl⟩ l.length 0 [] (by omega) rfl) ⟨⟨rfl,rfl,rfl,fun k hk=>by omega⟩,HE.refl _,trivial⟩)
 have h:=qI.gc (r1:=.x 0 []) (h1:=[.ext false (.s false 1 l.length (cT l))]) rfl (qI.frz1 0 rfl h0)
 exact qI.mono h fun r h' hh=>by rw[hh.1,hh.2]; exact hq
noncomputable def gTb:List SV→List HO→Option ((SV→List HO→Prop)→Prop)
 | [.x 0 []],[.ext false (.s false 1 n c)]=>some fun Q=>lT n c fun l=>Q (.x 0 []) [.ext false (.s false 1 l.length (cT l))]
 | _,_=>none
theorem zOx(args:List SV)(h:List HO)(tr:(SV→List HO→Prop)→Prop)(Q:SV→List HO→Prop)(hc:gTb args h=some tr)(ht:tr Q):qI Tryz.prog 35 args h Q:=by
 unfold gTb at hc
 split at hc
 ·simp only[sI] at hc
  subst hc
  obtain⟨l,rfl,he,hl,hq⟩:=ht.h
  exact qI.ac (zSn l hl Q hq) ⟨⟨rfl,rfl,rfl,rfl,he⟩,trivial⟩
 ·cases hc
noncomputable def zZa:Con Tryz.prog:=zPc.add 35 gTb zOx
end Go.Proofs.YtlmjdcbhpffanaaGreat
/- A sheet as new memory. -/
namespace Go.Proofs.YtlmjdcbhpffanaaGreat
open Go.Sx Go.Pl
set_option linter.unusedVariables false
set_option maxRecDepth 100000
noncomputable def K70:Con Tryz.prog:=zZa
end Go.Proofs.YtlmjdcbhpffanaaGreat
/- A cell's value. -/
namespace Go.Pl
open Go.Sx
def zPy(s:Sht)(kd:Int):List (List Nat):=if kd=2 then s.fx else if kd=3 then s.ad else if kd=4 then s.is else[]
end Go.Pl
namespace Go.Proofs.YtlmjdcbhpffanaaGreat
open Go.Sx Go.Pl
set_option linter.unusedVariables false
set_option maxRecDepth 100000
noncomputable def K71:Con Tryz.prog:=K70
end Go.Proofs.YtlmjdcbhpffanaaGreat
/- Columns that are too long. -/
namespace Go.Pl
open Go.Sx
def uC(u:Int):Nat→Nat→qB:=fun _ _=>.v (.int .i64 u)
structure lU (ck:Nat→Nat→qB) (k:Int→Prop):Prop where
 h:∃ u:Int,IsC 1 1 ck (uC u)∧k u
def qBe(u:Int)(x:List Nat):Bool:=decide (u<(x.length:Int))
theorem qLe{p:List Nat→Bool}{l:List (List Nat)}{k:Nat}(h:k<l.length):zB p k (l.drop k)=if p (gT l k) then(k:Int) else zB p (k+1) (l.drop (k+1)):=by
 rw[List.drop_eq_getElem_cons h,zB,gT,List.getD_eq_getElem?_getD,List.getElem?_eq_getElem h]; rfl
end Go.Pl
namespace Go.Proofs.YtlmjdcbhpffanaaGreat
open Go.Sx Go.Pl
set_option linter.unusedVariables false
set_option maxRecDepth 100000
end Go.Proofs.YtlmjdcbhpffanaaGreat
/- Columns that are too long: the first. -/
namespace Go.Proofs.YtlmjdcbhpffanaaGreat
open Go.Sx Go.Pl
set_option linter.unusedVariables false
set_option maxRecDepth 100000
theorem zZb(b:Bool)(l:List (List Nat))(u:Int)(K:List It→St→Prop)(R:SV→List HO→Prop):W (xwp Tryz.prog X K71 [(51,[])] 60 (qO Tryz.f83 [] [⟨[0,1,0,1],[8,7,0,1],[]⟩]) [] [.at []] ⟨qQ 0 [.x 0 [],.fn (.func 51) [] [.x 1 []]],[.ext b (.s false 1 l.length (cT l)),.ext true (.s true 1 1 (uC u))]⟩ K R)=W (K [.at [0,1,0,1],.blk 0,.at [1,1]] (St.mk [(8,.v (qA 0)),(7,.v (qA (↑l.length:Int))),(0,.x 0 []),(1,SV.fn (Fn.func 51) [] [.x 1 []])] [.ext b (.s false 1 l.length (cT l)),.ext true (.s true 1 1 (uC u))])):=by kernel_rfl
theorem zTi(b:Bool)(l:List (List Nat))(u:Int)(k M:Nat)(K:List It→St→Prop)(R:SV→List HO→Prop):W (xwp Tryz.prog X K71 [(51,[])] 60 (qO Tryz.f83 [] [⟨[0,1,0,1],[8,7,0,1],[]⟩]) [] (.at [0,0,1,0,1]::.rnd [0,0,1,0,1] M::[.blk 0,.at [1,1]]) ⟨[(8,.v (.int .i64 (k:Int))),(7,.v (.int .i64 (l.length:Int))),(0,.x 0 []),(1,.fn (.func 51) [] [.x 1 []])],[.ext b (.s false 1 l.length (cT l)),.ext true (.s true 1 1 (uC u))]⟩ K R)=W (bif decide ((↑k:Int)<(↑l.length:Int)) then(∀ M:Mem,(0:Int)≤(↑k:Int)∧(↑k:Int)<(↑l.length:Int))∧(∀ M:Mem,k<List.length l)∧(∀ M:Mem,k<List.length l)∧(∀ M:Mem,0<1)∧bif decide (u<(↑(List.length (gT l k)):Int)) then R (.v (qA (↑k:Int))) [] else K [.rnd [0,0,1,0,1] M,.blk 0,.at [1,1]] (St.mk [(8,.v (qA (IntKind.wrap .i64 ((↑k:Int)+(1:Int))))),(7,.v (qA (↑l.length:Int))),(0,.x 0 []),(1,SV.fn (Fn.func 51) [] [.x 1 []])] [.ext b (.s false 1 l.length (cT l)),.ext true (.s true 1 1 (uC u))]) else R (.v (qA (-1))) []):=by kernel_rfl
theorem qVb(b:Bool)(l:List (List Nat))(u:Int)(hb:l.length≤17592186043904)(Q:SV→List HO→Prop):∀(d k:Nat),k+d=l.length→Q (.v (.int .i64 (zB (qBe u) k (l.drop k)))) [] →
  FOk Tryz.prog Tryz.f83 Q (.rnd [0,0,1,0,1] (d+1)::[.blk 0,.at [1,1]]) ⟨[(8,.v (.int .i64 (k:Int))),(7,.v (.int .i64 (l.length:Int))),(0,.x 0 []),(1,.fn (.func 51) [] [.x 1 []])],[.ext b (.s false 1 l.length (cT l)),.ext true (.s true 1 1 (uC u))]⟩
 | 0,k,hd,hq=>by
  refine FOk.rnd (qC hm 60 ((zTi b l u k 0 _ _).mpr ⟨?_⟩))
  rw[qD,if_neg (by omega)]
  rw[show k=l.length by omega,List.drop_length] at hq
  exact hq
 | d+1,k,hd,hq=>by
  have hk:k<l.length:=by omega
  refine FOk.rnd (qC hm 60 ((zTi b l u k (d+1) _ _).mpr ⟨?_⟩))
  rw[qD,if_pos (by omega),qK _ (by omega)]
  rw[qLe hk,qBe] at hq
  simp only[qD,forall_const]
  repeat' (first | refine And.intro (by omega) ?_ | refine qG (fun h=>?_) (fun h=>?_))
  ·rw[decide_eq_true h] at hq; exact hq
  ·rw[decide_eq_false h] at hq; exact qVb b l u hb Q d (k+1) (by omega) hq
theorem zWe:Tryz.f83.body.isSome=true:=by kernel_rfl
theorem zWi:Nat.ble [SV.x 0 [],.fn (.func 51) [] [.x 1 []]].length Tryz.f83.ntmps=true:=by kernel_rfl
theorem zMb(b:Bool)(l:List (List Nat))(u:Int)(hb:l.length≤17592186043904)(Q:SV→List HO→Prop)(hq:Q (.v (.int .i64 (zB (qBe u) 0 l))) []):qI Tryz.prog 83 [.x 0 [],.fn (.func 51) [] [.x 1 []]] [.ext b (.s false 1 l.length (cT l)),.ext true (.s true 1 1 (uC u))] Q:=by
 refine qL Tryz.func83 zWe ?_ ?_
 ·exact zWi
 refine qC hm 60 ((zZb b l u _ _).mpr ⟨?_⟩)
 exact FOk.loop (l.length+1) (by kernel_rfl) (qVb b l u hb Q l.length 0 (by omega) hq)
noncomputable def zKf:List SV→List HO→Option ((SV→List HO→Prop)→Prop)
 | [.x 0 [],.fn (.func 51) [] [.x 1 []]],[.ext _ (.s false 1 n c),.ext true (.s true 1 1 ck)]=>some fun Q=>lT n c fun l=>lU ck fun u=>Q (.v (.int .i64 (zB (qBe u) 0 l))) []
 | _,_=>none
theorem zGd(args:List SV)(h:List HO)(tr:(SV→List HO→Prop)→Prop)(Q:SV→List HO→Prop)(hc:zKf args h=some tr)(ht:tr Q):qI Tryz.prog 83 args h Q:=by
 unfold zKf at hc
 split at hc
 ·simp only[sI] at hc
  subst hc
  obtain⟨l,rfl,he,hb,hk⟩:=ht.h
  obtain⟨u,e1,hq⟩:=hk.h
  have:=hb.2
  exact qI.ac (zMb _ l u (by omega) Q hq) ⟨⟨rfl,rfl,rfl,rfl,he⟩,⟨rfl,rfl,rfl,rfl,e1⟩,trivial⟩
 ·cases hc
noncomputable def K72:Con Tryz.prog:=K71.add 83 zKf zGd
end Go.Proofs.YtlmjdcbhpffanaaGreat
/- Is a cell's place wrong? With what the function has caught. -/
namespace Go.Pl
open Go.Sx
def zOh(n:Nat)(u x y:Int):Bool:=decide (x<0∨(n:Int)≤x∨y<0∨u≤y)
end Go.Pl
namespace Go.Proofs.YtlmjdcbhpffanaaGreat
open Go.Sx Go.Pl
set_option linter.unusedVariables false
set_option maxRecDepth 100000
noncomputable def zVm:Con Tryz.prog:=K72
end Go.Proofs.YtlmjdcbhpffanaaGreat
/- Is a copy wrong? -/
namespace Go.Proofs.YtlmjdcbhpffanaaGreat
open Go.Sx Go.Pl
set_option linter.unusedVariables false
set_option maxRecDepth 100000
noncomputable def zWr:Con Tryz.prog:=zVm
end Go.Proofs.YtlmjdcbhpffanaaGreat
/- The first copy that is wrong. -/
namespace Go.Pl
open Go.Sx
end Go.Pl
namespace Go.Proofs.YtlmjdcbhpffanaaGreat
open Go.Sx Go.Pl
set_option linter.unusedVariables false
set_option maxRecDepth 100000
noncomputable def K73:Con Tryz.prog:=zWr
end Go.Proofs.YtlmjdcbhpffanaaGreat
/- Does a sheet fit? -/
namespace Go.Pl
open Go.Sx
structure lF (fx ad ins:Int) (n0 n1 n2 n3 m0 m1 m2 m3:Nat) (c0 c1 c2 c3 d0 d1 d2 d3:Nat→Nat→qB) (k:Cir→Sht→Prop):Prop where
 h:lC fx ad ins n0 n1 n2 n3 c0 c1 c2 c3 fun c=>lS m0 m1 m2 m3 d0 d1 d2 d3 fun s=>k c s
end Go.Pl
namespace Go.Proofs.YtlmjdcbhpffanaaGreat
open Go.Sx Go.Pl
set_option linter.unusedVariables false
set_option maxRecDepth 100000
noncomputable def K74:Con Tryz.prog:=K73
end Go.Proofs.YtlmjdcbhpffanaaGreat
/- An argument that is a nil slice, told as an empty frozen memory. -/
namespace Go.Sx
open Go.RowKit
theorem qI.nilX{P:Program}{f:FuncId}{args args':List SV}{h:List HO}{Q:SV→List HO→Prop}(sz:Nat)(c:Nat→Nat→qB)(hw:wsL (h.length+1) args')(hd:∀ e e0:Env,e.val h.length []=.slice none 0 0→zD h.length e0 e→qN e args'=qN e0 args)(k:qI P f args' (h++[.ext false (.s false sz 0 c)]) Q):qI P f args h Q:=by
 intro F hF w0 e hm S hws
 have S2:=S.newExt hF false (.s false sz 0 c) (fun _=>.slice none 0 0) (fun _=>rfl) ⟨none,⟨0,rfl,Nat.le_refl _⟩,.inl rfl⟩
 have hk:=k F hF w0 _ hm S2 (by rw[List.length_append]; exact hw)
 have hv:=hd (e.setV h.length (fun _=>.slice none 0 0) (fun _=>rfl)) e (by simp [Env.setV]) (jB e h.length _ _)
 rw[← hv]
 exact hk
end Go.Sx
/- A row of one's own is given up; what refers to it in other objects is told anew. -/
namespace Go.Sx
open Go.RowKit
def qNe(i n:Nat):HO→HO
 | .cells xs T=>.cells (qMt i n xs) T
 | .row T sz k xs=>.row T sz k (qMt i n xs)
 | x=>x
theorem FOk.frzH{P:Program}{m:Nat}{fn:Func}{Q:SV→List HO→Prop}{k:List It}{tm:List (Nat×SV)}{h:List HO}(i:Nat){T:TypeId}{sz n:Nat}{c:Ct}(hi:h[i]?=some (.rowc T sz n c))(hk:zX P m fn Q k ⟨zBj i h.length tm,(h.set i .gone++[HO.ext false (qB.s false sz n c.at)]).map (qNe i h.length)⟩):zX P m fn Q k ⟨tm,h⟩:=by
 intro F hF w0 hw0 e a w S T0
 have hlt:=(List.getElem?_eq_some_iff.1 hi).1
 obtain⟨S1,hle⟩:=S.drop hF i hlt
 obtain⟨qR,h1,_,h2⟩:=S.sat i _ hi
 obtain⟨f,f1,f2,f3⟩:=S.frozen hi rfl h1 hle h2
 have S2:=S1.newExt hF false (.s false sz n c.at) f f1 (by simpa using f3)
 rw[List.length_set] at S2
 have hag:=jB e h.length f f1
 have hv:(e.setV h.length f f1).val h.length []=(e.setV h.length f f1).row i:=by
  have:(e.setV h.length f f1).val h.length=f:=by simp [Env.setV]
  rw[this,f2]; rfl
 have hl:(h.set i HO.gone++[HO.ext false (.s false sz n c.at)]).length=h.length+1:=by simp
 have S3:=S2.conv hF (h':=(h.set i HO.gone++[HO.ext false (.s false sz n c.at)]).map (qNe i h.length)) (by rw[List.length_map]) (fun j x' hx'=>by
  rw[List.getElem?_map] at hx'
  obtain⟨x,hx,rfl⟩:=Option.map_eq_some_iff.1 hx'
  refine⟨x,hx,?_,?_,?_⟩
  ·cases x <;> rfl
  ·cases x with
   | cells xs T=>intro hs; simp only[qNe,HO.sat,xS i _ _ hv] at hs ⊢; exact hs
   | row T sz k xs=>intro hs; simp only[qNe,HO.sat,xS i _ _ hv] at hs ⊢; exact hs
   | _=>exact fun hs=>hs
  ·cases x with
   | cells xs T=>exact fun hs=>wW i h.length _ (by rw[hl]; exact Nat.lt_succ_self _) xs hs
   | row T sz k xs=>exact fun hs=>wW i h.length _ (by rw[hl]; exact Nat.lt_succ_self _) xs hs
   | _=>exact fun hs=>hs)
 refine hk F hF w0 hw0 _ a w S3 ⟨T0.size,T0.defers,fun t s hs=>?_,fun t s hs=>?_⟩
 ·obtain⟨s0,q1,rfl⟩:=qCd i _ tm hs
  rw[qEt i _ _ hv,T0.get t s0 q1,jJ hag s0 (T0.wsc t s0 q1)]
 ·obtain⟨s0,q1,rfl⟩:=qCd i _ tm hs
  show ws ((h.set i HO.gone++[HO.ext false (.s false sz n c.at)]).map (qNe i h.length)).length _
  rw[List.length_map,hl]
  exact qHx i _ _ (Nat.lt_succ_self _) s0 (yO (Nat.le_succ _) s0 (T0.wsc t s0 q1))
end Go.Sx
/- Arguments whose objects are told in another order. -/
namespace Go.Sx
open Go.RowKit
theorem qI.gcA{P:Program}{f:FuncId}{args args':List SV}{h h':List HO}{Q:SV→List HO→Prop}(π:List Nat)(hn:xA π=true)(ha:qFs π args=some args')(hh:qFe π h π=some h')(k:qI P f args' h' Q):qI P f args h Q:=by
 intro F hF w0 e hm0 S hw
 obtain⟨l1,l2⟩:=xJ π h π hh
 obtain⟨a,b⟩:=jU π args ha
 have:=k F hF w0 (zU π e) hm0 (S.ren hF π hn ⟨by rw[hm0]; exact Nat.zero_le _,fun i hi=>by rw[hm0] at hi; omega⟩ (fun i x hx=>(l2 i x hx).1) (fun i x hx=>by rw[l1]; exact(l2 i x hx).2)) (by rw[l1]; exact b)
 rw[xM,a] at this
 exact this
end Go.Sx
/- Rows of own rows: one of them taken out, put back; given up. -/
namespace Go.Sx
open Go.RowKit
mutual
def qJj (i n : Nat) : SV → SV
  | .o j => bif Nat.beq j i then .o n else .o j
  | .agg cs => .agg (qIp i n cs)
  | .tup cs => .tup (qIp i n cs)
  | .fn f a c => .fn f (qIp i n a) (qIp i n c)
  | .ifc t y => .ifc t (qJj i n y)
  | .v x => .v x
  | .bl b => .bl b
  | .p j off => .p j off
  | .q j off => .q j off
  | .m j => .m j
  | .sl j off len cap => .sl j off len cap
  | .x j p => .x j p
  | .xp j p sz k c => .xp j p sz k c
  | .qk j sz k c => .qk j sz k c
def qIp (i n : Nat) : List SV → List SV
  | [] => []
  | x :: r => qJj i n x :: qIp i n r
end
mutual
theorem qJx (i n : Nat) (e : Env) (h : e.row n = e.row i) : ∀ s, den e (qJj i n s) = den e s
  | .o j => by
    simp only [qJj]
    cases hb : Nat.beq j i with
    | true => rw [cond_true, den, den, h, Nat.eq_of_beq_eq_true hb]
    | false => rfl
  | .agg cs => by simp only [qJj, den, wN i n e h cs]
  | .tup cs => by simp only [qJj, den, wN i n e h cs]
  | .fn f a c => by simp only [qJj, den, wN i n e h a, wN i n e h c]
  | .ifc t y => by simp only [qJj, den, qJx i n e h y]
  | .v x => rfl
  | .bl b => rfl
  | .p j off => rfl
  | .q j off => rfl
  | .m j => rfl
  | .sl j off len cap => rfl
  | .x j p => rfl
  | .xp j p sz k c => rfl
  | .qk j sz k c => rfl
theorem wN (i n : Nat) (e : Env) (h : e.row n = e.row i) : ∀ l, qN e (qIp i n l) = qN e l
  | [] => rfl
  | x :: r => by simp only [qIp, qN, qJx i n e h x, wN i n e h r]
end
mutual
theorem qQt (i n m : Nat) (h : n < m) : ∀ s, ws m s → ws m (qJj i n s)
  | .o j, hs => by
    simp only [qJj]
    cases Nat.beq j i with
    | true => exact h
    | false => exact hs
  | .agg cs, hs => qBb i n m h cs hs
  | .tup cs, hs => qBb i n m h cs hs
  | .fn f a c, hs => ⟨qBb i n m h a hs.1, qBb i n m h c hs.2⟩
  | .ifc t y, hs => qQt i n m h y hs
  | .v x, _ => trivial
  | .bl b, _ => trivial
  | .p j off, hs => hs
  | .q j off, hs => hs
  | .m j, hs => hs
  | .sl j off len cap, hs => hs
  | .x j p, hs => hs
  | .xp j p sz k c, hs => hs
  | .qk j sz k c, hs => hs
theorem qBb (i n m : Nat) (h : n < m) : ∀ l, wsL m l → wsL m (qIp i n l)
  | [], _ => trivial
  | x :: r, hs => ⟨qQt i n m h x hs.1, qBb i n m h r hs.2⟩
end
def zAn(i n:Nat):List (Nat×SV)→List (Nat×SV)
 | []=>[]
 | (t,s)::r=>(t,qJj i n s)::zAn i n r
theorem qGi(i n:Nat):∀(l:List (Nat×SV)) {t:Nat} {s:SV},lk (zAn i n l) t=some s→∃ s0,lk l t=some s0∧s=qJj i n s0
 | [],t,s,h=>by cases h
 | (u,x)::r,t,s,h=>by
  simp only[zAn,lk] at h ⊢
  cases hb:Nat.beq u t with
  | true =>
   rw[hb] at h
   simp only[cond_true,sI] at h
   exact⟨x,rfl,h.symm⟩
  | false =>
   rw[hb] at h
   exact qGi i n r h
def qNn(i n:Nat):HO→HO
 | .cells xs T=>.cells (qIp i n xs) T
 | .row T sz k xs=>.row T sz k (qIp i n xs)
 | .mp ag ks kl c=>.mp ag ks kl (c.map (qIp i n))
 | x=>x
theorem qP.reown{F:Mem→Prop}(hF:zP F){w0:wO}{h h':List HO}{e e':Env}{w:World}(S:qP F w0 h e w)(hag:zD h.length e e')(hlen:h.length≤h'.length)(hsat:(mem w e h).le (mem w e' h')→∀(i:Nat) (ho:HO),h'[i]?=some ho→ho.sat e' (mem w e' h') i w)(hws:∀(i:Nat) (ho:HO),h'[i]?=some ho→ho.ws h'.length)(hone:∀(i j:Nat) (ho ho':HO) (b:Nat),h'[i]?=some ho→h'[j]?=some ho'→ho.own e' i b→ho'.own e' j b→i=j)(hown:∀(i:Nat) (ho:HO) (b:Nat),h'[i]?=some ho→ho.own e' i b→xO e h b):qP F w0 h' e' w:=by
 have hM:(mem w e h).le (mem w e' h'):=by
  intro b o hb
  unfold mem at hb ⊢
  split at hb
  ·cases hb
  ·rename_i hno
   rw[if_neg,hb]
   rintro⟨i,x,hx,hb2⟩
   exact hno (hown i x b hx hb2)
 refine⟨S.os,S.tape,S.output,hsat hM,hws,hone,hF _ _ hM S.fact,fun i ho b hi hb=>?_,fun b hb=>?_,hag.2.trans S.ez,Nat.le_trans S.pin.1 hlen,fun i hi=>?_⟩
 ·obtain⟨j,y,h1,h2⟩:=hown i ho b hi hb
  rw[hag.2]
  exact S.nz j y b h1 h2
 ·rw[hag.2] at hb
  exact S.zlt b hb
 ·obtain⟨a1,a2,a3⟩:=hag.1 i (Nat.lt_of_lt_of_le hi S.pin.1)
  obtain⟨b1,b2,b3⟩:=S.pin.2 i hi
  exact⟨a1.trans b1,a2.trans b2,a3.trans b3⟩
theorem jZ(k:Nat):inH none k:=fun m hk=>by cases hk
theorem zNw{k m q:Nat}(h:inH (some (k,m)) q):q≠k:=fun e=>h m (by rw[e])
theorem qFq{k m q:Nat}(h:q≠k):inH (some (k,m)) q:=fun y hy=>by
 simp only[sI,pI] at hy
 exact h hy.1.symm
theorem zH{h:List HO}{i j:Nat}{x y z:HO}(hi:i<h.length)(hg:(h.set i x++[y])[j]?=some z):(j=h.length∧z=y)∨(j=i∧z=x)∨(j≠i∧j<h.length∧h[j]?=some z):=by
 rw[List.getElem?_append] at hg
 split at hg
 ·rename_i hlt
  rw[List.length_set] at hlt
  by_cases hji:j=i
  ·subst hji
   simp [hi] at hg
   exact .inr (.inl ⟨rfl,hg.symm⟩)
  ·exact .inr (.inr ⟨hji,hlt,wK hji hg⟩)
 ·rename_i hge
  rw[List.length_set] at hge hg
  cases hk:j-h.length with
  | zero =>
   rw[hk] at hg
   simp only[List.getElem?_cons_zero,sI] at hg
   exact .inl ⟨by omega,hg.symm⟩
  | succ q=>rw[hk] at hg; simp at hg
theorem qP.focus{F:Mem→Prop}(hF:zP F){w0:wO}{h:List HO}{e:Env}{w:World}(S:qP F w0 h e w){i k:Nat}{T0 T1:TypeId}{sz n:Nat}{c:Nat→Nat×(Nat→Nat→qB)}(hi:h[i]?=some (.tbl T0 T1 sz n c none))(hk:k<n):
  qP F w0 (h.set i (.tbl T0 T1 sz n c (some (k,h.length)))++[.rowc T1 sz (c k).1 (.fn (c k).2)]) (e.setR h.length (e.val i [(1,k,0)])) w:=by
 have hlt:=(List.getElem?_eq_some_iff.1 hi).1
 have hag:=zO e h.length (e.val i [(1,k,0)])
 have hrow:(e.setR h.length (e.val i [(1,k,0)])).row h.length=e.val i [(1,k,0)]:=by simp [Env.setR]
 have hri:(e.setR h.length (e.val i [(1,k,0)])).row i=e.row i:=(hag.1 i hlt).2.1
 obtain⟨⟨hds,d1,d2,d3⟩,d4,d5,d6⟩:=S.sat i _ hi
 have ownT:∀ b,(HO.tbl T0 T1 sz n c (some (k,h.length))).own (e.setR h.length (e.val i [(1,k,0)])) i b→(HO.tbl T0 T1 sz n c none).own e i b∧(e.val i [(1,k,0)]).ownBlock≠some b:=by
  intro b hb
  simp only[HO.own,hri] at hb
  rcases hb with hb | ⟨q,hq,hiq,hb⟩
  ·exact⟨.inl hb,fun hh=>d6 k b hk (jZ k) hh hb⟩
  ·exact⟨.inr ⟨q,hq,jZ q,hb⟩,fun hh=>zNw hiq (d5 q k b hq hk (jZ q) (jZ k) hb hh)⟩
 refine S.reown hF hag (by simp) (fun hM j x hx=>?_) (fun j x hx=>?_) (fun j1 j2 x1 x2 b hx1 hx2 hb1 hb2=>?_) (fun j x b hx hb=>?_)
 ·rcases zH hlt hx with ⟨rfl,rfl⟩ | ⟨rfl,rfl⟩ | ⟨_,hj,hx0⟩
  ·obtain⟨qR,g1,g2,g3⟩:=d4 k hk (jZ k)
   simp only[HO.sat,hrow]
   exact⟨qR,g1,g2,qY (Mem.sub_mono hM _) g3⟩
  ·simp only[HO.sat,hri]
   refine⟨⟨hds,d1,d2,fun q hq=>?_⟩,fun q hq hiq=>?_,fun q q' b hq hq' _ _ h1 h2=>d5 q q' b hq hq' (jZ q) (jZ q') h1 h2,fun q b hq _ h1=>d6 q b hq (jZ q) h1⟩
   ·rw[d3 q hq]
    by_cases hqk:q=k
    ·subst hqk; simp only[thd,if_true,hrow]
    ·simp only[thd,if_neg hqk]; rfl
   ·obtain⟨qR,g1,g2,g3⟩:=d4 q hq (jZ q)
    exact⟨qR,g1,g2,qY (Mem.sub_mono hM _) g3⟩
  ·exact HO.sat_keep hM hj hag (S.ws j x hx0) (S.sat j x hx0) fun _ _=>rfl
 ·rw[List.length_append,List.length_set,List.length_singleton]
  rcases zH hlt hx with ⟨rfl,rfl⟩ | ⟨rfl,rfl⟩ | ⟨_,hj,hx0⟩
  ·trivial
  ·intro q m hq
   simp only[sI,pI] at hq
   omega
  ·exact HO.ws_mono (Nat.le_succ _) (S.ws j x hx0)
 ·have rowOwn:∀ b,(HO.rowc T1 sz (c k).1 (.fn (c k).2)).own (e.setR h.length (e.val i [(1,k,0)])) h.length b→(e.val i [(1,k,0)]).ownBlock=some b:=by
   intro b hb
   simp only[HO.own,hrow] at hb
   exact hb
  have oldOwn:∀(j:Nat) (x:HO),j<h.length→x.own (e.setR h.length (e.val i [(1,k,0)])) j b→x.own e j b:=fun j x hj hb=>by
   rw[HO.own_agree hj hag] at hb; exact hb
  have inner:(e.val i [(1,k,0)]).ownBlock=some b→(HO.tbl T0 T1 sz n c none).own e i b:=fun hb=>.inr ⟨k,hk,jZ k,hb⟩
  rcases zH hlt hx1 with ⟨rfl,rfl⟩ | ⟨rfl,rfl⟩ | ⟨n1,hj1,hy1⟩
  ·rcases zH hlt hx2 with ⟨rfl,rfl⟩ | ⟨rfl,rfl⟩ | ⟨n2,hj2,hy2⟩
   ·rfl
   ·exact absurd (rowOwn b hb1) (ownT b hb2).2
   ·exact absurd (S.one j2 i x2 _ b hy2 hi (oldOwn j2 x2 hj2 hb2) (inner (rowOwn b hb1))) n2
  ·rcases zH hlt hx2 with ⟨rfl,rfl⟩ | ⟨rfl,rfl⟩ | ⟨n2,hj2,hy2⟩
   ·exact absurd (rowOwn b hb2) (ownT b hb1).2
   ·rfl
   ·exact absurd (S.one j2 j1 x2 _ b hy2 hi (oldOwn j2 x2 hj2 hb2) (ownT b hb1).1) n2
  ·rcases zH hlt hx2 with ⟨rfl,rfl⟩ | ⟨rfl,rfl⟩ | ⟨n2,hj2,hy2⟩
   ·exact absurd (S.one j1 i x1 _ b hy1 hi (oldOwn j1 x1 hj1 hb1) (inner (rowOwn b hb2))) n1
   ·exact absurd (S.one j1 j2 x1 _ b hy1 hi (oldOwn j1 x1 hj1 hb1) (ownT b hb2).1) n1
   ·exact S.one j1 j2 x1 x2 b hy1 hy2 (oldOwn j1 x1 hj1 hb1) (oldOwn j2 x2 hj2 hb2)
 ·rcases zH hlt hx with ⟨rfl,rfl⟩ | ⟨rfl,rfl⟩ | ⟨_,hj,hx0⟩
  ·simp only[HO.own,hrow] at hb
   exact⟨i,_,hi,.inr ⟨k,hk,jZ k,hb⟩⟩
  ·exact⟨j,_,hi,(ownT b hb).1⟩
  ·rw[HO.own_agree hj hag] at hb
   exact⟨j,x,hx0,hb⟩
theorem FOk.focus{P:Program}{m:Nat}{fn:Func}{Q:SV→List HO→Prop}{its:List It}{tm:List (Nat×SV)}{h:List HO}(i k:Nat){T0 T1:TypeId}{sz n:Nat}{c:Nat→Nat×(Nat→Nat→qB)}(hi:h[i]?=some (.tbl T0 T1 sz n c none))(hk:k<n)(hx:zX P m fn Q its ⟨tm,h.set i (.tbl T0 T1 sz n c (some (k,h.length)))++[.rowc T1 sz (c k).1 (.fn (c k).2)]⟩):zX P m fn Q its ⟨tm,h⟩:=by
 intro F hF w0 hw0 e a w S T0'
 have hag:=zO e h.length (e.val i [(1,k,0)])
 refine hx F hF w0 hw0 _ a w (S.focus hF hi hk) ⟨T0'.size,T0'.defers,fun t s hs=>?_,fun t s hs=>?_⟩
 ·rw[T0'.get t s hs,jJ hag s (T0'.wsc t s hs)]
 ·show ws (h.set i (HO.tbl T0 T1 sz n c (some (k,h.length)))++[HO.rowc T1 sz (c k).1 (.fn (c k).2)]).length s
  rw[List.length_append,List.length_set]
  exact yO (Nat.le_add_right _ _) s (T0'.wsc t s hs)
def qGf(c:Nat→Nat×(Nat→Nat→qB))(k n2:Nat)(c2:Nat→Nat→qB):Nat→Nat×(Nat→Nat→qB):=fun q=>bif Nat.beq q k then(n2,c2) else c q
theorem qQv(c:Nat→Nat×(Nat→Nat→qB))(k n2:Nat)(c2:Nat→Nat→qB):qGf c k n2 c2 k=(n2,c2):=by rw[qGf,Nat.beq_refl]; rfl
theorem qQo(c:Nat→Nat×(Nat→Nat→qB))(k n2:Nat)(c2:Nat→Nat→qB){q:Nat}(h:q≠k):qGf c k n2 c2 q=c q:=by
 have hb:Nat.beq q k=false:=by
  rw[Bool.eq_false_iff]
  intro hh
  exact h (Nat.eq_of_beq_eq_true hh)
 rw[qGf,hb]; rfl
def qDs(f:yC→Value)(k:Nat)(v:Value):yC→Value:=fun p=>if p=[(1,k,0)] then v else f p
theorem qEh(f:yC→Value)(k:Nat)(v:Value):qDs f k v [(1,k,0)]=v:=by simp [qDs]
theorem qCk(f:yC→Value)(v:Value){k q:Nat}(h:q≠k):qDs f k v [(1,q,0)]=f [(1,q,0)]:=by simp [qDs,h]
theorem zEq{h:List HO}{m j:Nat}{x:HO}(hx:(h.set m .gone)[j]?=some x):(j=m∧x=.gone)∨(j≠m∧h[j]?=some x):=by
 by_cases hjm:j=m
 ·subst hjm
  have hlt:j<h.length:=by
   have:=(List.getElem?_eq_some_iff.1 hx).1
   simpa using this
  simp [hlt] at hx
  exact .inl ⟨rfl,hx.symm⟩
 ·exact .inr ⟨hjm,wK hjm hx⟩
theorem qP.unfocus{F:Mem→Prop}(hF:zP F){w0:wO}{h:List HO}{e:Env}{w:World}(S:qP F w0 h e w){i m k:Nat}{T0 T1:TypeId}{sz n n2:Nat}{c:Nat→Nat×(Nat→Nat→qB)}{c2:Ct}(hi:h[i]?=some (.tbl T0 T1 sz n c (some (k,m))))(hm:h[m]?=some (.rowc T1 sz n2 c2))(him:i≠m)(hf:∀ p,(qDs (e.val i) k (e.row m) p).oneCell'=true):
  qP F w0 ((h.set m .gone).set i .gone++[.tbl T0 T1 sz n (qGf c k n2 c2.at) none]) ((e.setR h.length (e.row i)).setV h.length (qDs (e.val i) k (e.row m)) hf) w:=by
 have hlt:=(List.getElem?_eq_some_iff.1 hi).1
 have hltm:=(List.getElem?_eq_some_iff.1 hm).1
 have hag:zD h.length e ((e.setR h.length (e.row i)).setV h.length (qDs (e.val i) k (e.row m)) hf):=(zO e h.length (e.row i)).trans (jB (e.setR h.length (e.row i)) h.length _ hf) (Nat.le_refl _)
 have hrow:((e.setR h.length (e.row i)).setV h.length (qDs (e.val i) k (e.row m)) hf).row h.length=e.row i:=by simp [Env.setR,Env.setV]
 have hval:((e.setR h.length (e.row i)).setV h.length (qDs (e.val i) k (e.row m)) hf).val h.length=qDs (e.val i) k (e.row m):=by simp [Env.setV]
 obtain⟨⟨hds,d1,d2,d3⟩,d4,d5,d6⟩:=S.sat i _ hi
 obtain⟨qR,v1,v2,v3⟩:=S.sat m _ hm
 have mOwn:∀ b,(e.row m).ownBlock=some b→(HO.rowc T1 sz n2 c2).own e m b:=fun b hb=>hb
 have apart:∀ b,(e.row m).ownBlock=some b→¬ (HO.tbl T0 T1 sz n c (some (k,m))).own e i b:=fun b hb hh=>him (S.one i m _ _ b hi hm hh hb)
 have hlen:(h.set m HO.gone).length=h.length:=List.length_set
 have get3:∀(j:Nat) (x:HO),((h.set m HO.gone).set i HO.gone++[HO.tbl T0 T1 sz n (qGf c k n2 c2.at) none])[j]?=some x→(j=h.length∧x=.tbl T0 T1 sz n (qGf c k n2 c2.at) none)∨x=.gone∨(j≠i∧j≠m∧j<h.length∧h[j]?=some x):=by
  intro j x hx
  rcases zH (by rw[hlen]; exact hlt) hx with ⟨h1,h2⟩ | ⟨_,h2⟩ | ⟨h1,h2,h3⟩
  ·exact .inl ⟨by rw[h1,hlen],h2⟩
  ·exact .inr (.inl h2)
  ·rcases zEq h3 with ⟨_,h4⟩ | ⟨h4,h5⟩
   ·exact .inr (.inl h4)
   ·exact .inr (.inr ⟨h1,h4,by rw[hlen] at h2; exact h2,h5⟩)
 have newOwn:∀ b,(HO.tbl T0 T1 sz n (qGf c k n2 c2.at) none).own ((e.setR h.length (e.row i)).setV h.length (qDs (e.val i) k (e.row m)) hf) h.length b→(HO.tbl T0 T1 sz n c (some (k,m))).own e i b∨(e.row m).ownBlock=some b:=by
  intro b hb
  simp only[HO.own,hrow,hval] at hb
  rcases hb with hb | ⟨q,hq,_,hb⟩
  ·exact .inl (.inl hb)
  ·by_cases hqk:q=k
   ·subst hqk; rw[qEh] at hb; exact .inr hb
   ·rw[qCk _ _ hqk] at hb; exact .inl (.inr ⟨q,hq,qFq hqk,hb⟩)
 refine S.reown hF hag (by simp) (fun hM j x hx=>?_) (fun j x hx=>?_) (fun j1 j2 x1 x2 b hx1 hx2 hb1 hb2=>?_) (fun j x b hx hb=>?_)
 ·rcases get3 j x hx with ⟨rfl,rfl⟩ | rfl | ⟨_,_,hj,hx0⟩
  ·simp only[HO.sat,hrow,hval]
   refine⟨⟨hds,d1,d2,fun q hq=>?_⟩,fun q hq _=>?_,fun q q' b hq hq' _ _ h1 h2=>?_,fun q b hq _ h1=>?_⟩
   ·rw[d3 q hq]
    by_cases hqk:q=k
    ·subst hqk; simp only[thd,if_true,hval,qEh]
    ·simp only[thd,if_neg hqk,hval,qCk _ _ hqk]
   ·by_cases hqk:q=k
    ·subst hqk
     rw[qEh,qQv]
     exact⟨qR,v1,v2,qY (Mem.sub_mono hM _) v3⟩
    ·rw[qCk _ _ hqk,qQo _ _ _ _ hqk]
     obtain⟨us,g1,g2,g3⟩:=d4 q hq (qFq hqk)
     exact⟨us,g1,g2,qY (Mem.sub_mono hM _) g3⟩
   ·by_cases hqk:q=k
    ·by_cases hqk':q'=k
     ·rw[hqk,hqk']
     ·subst hqk
      rw[qEh] at h1
      rw[qCk _ _ hqk'] at h2
      exact absurd (.inr ⟨q',hq',qFq hqk',h2⟩) (apart b h1)
    ·rw[qCk _ _ hqk] at h1
     by_cases hqk':q'=k
     ·subst hqk'
      rw[qEh] at h2
      exact absurd (.inr ⟨q,hq,qFq hqk,h1⟩) (apart b h2)
     ·rw[qCk _ _ hqk'] at h2
      exact d5 q q' b hq hq' (qFq hqk) (qFq hqk') h1 h2
   ·by_cases hqk:q=k
    ·subst hqk
     rw[qEh] at h1
     exact fun hh=>apart b h1 (.inl hh)
    ·rw[qCk _ _ hqk] at h1
     exact d6 q b hq (qFq hqk) h1
  ·trivial
  ·exact HO.sat_keep hM hj hag (S.ws j x hx0) (S.sat j x hx0) fun _ _=>rfl
 ·rw[List.length_append,List.length_set,hlen,List.length_singleton]
  rcases get3 j x hx with ⟨rfl,rfl⟩ | rfl | ⟨_,_,hj,hx0⟩
  ·intro q m hq; cases hq
  ·trivial
  ·exact HO.ws_mono (Nat.le_succ _) (S.ws j x hx0)
 ·have oldOwn:∀(j:Nat) (x:HO),j<h.length→x.own ((e.setR h.length (e.row i)).setV h.length (qDs (e.val i) k (e.row m)) hf) j b→x.own e j b:=fun j x hj hb=>by
   rw[HO.own_agree hj hag] at hb; exact hb
  rcases get3 j1 x1 hx1 with ⟨rfl,rfl⟩ | rfl | ⟨n1,n2,hj1,hy1⟩
  ·rcases get3 j2 x2 hx2 with ⟨rfl,rfl⟩ | rfl | ⟨n3,n4,hj2,hy2⟩
   ·rfl
   ·exact hb2.elim
   ·rcases newOwn b hb1 with hh | hh
    ·exact absurd (S.one j2 i x2 _ b hy2 hi (oldOwn j2 x2 hj2 hb2) hh) n3
    ·exact absurd (S.one j2 m x2 _ b hy2 hm (oldOwn j2 x2 hj2 hb2) (mOwn b hh)) n4
  ·exact hb1.elim
  ·rcases get3 j2 x2 hx2 with ⟨rfl,rfl⟩ | rfl | ⟨n3,n4,hj2,hy2⟩
   ·rcases newOwn b hb2 with hh | hh
    ·exact absurd (S.one j1 i x1 _ b hy1 hi (oldOwn j1 x1 hj1 hb1) hh) n1
    ·exact absurd (S.one j1 m x1 _ b hy1 hm (oldOwn j1 x1 hj1 hb1) (mOwn b hh)) n2
   ·exact hb2.elim
   ·exact S.one j1 j2 x1 x2 b hy1 hy2 (oldOwn j1 x1 hj1 hb1) (oldOwn j2 x2 hj2 hb2)
 ·rcases get3 j x hx with ⟨rfl,rfl⟩ | rfl | ⟨_,_,hj,hx0⟩
  ·rcases newOwn b hb with hh | hh
   ·exact⟨i,_,hi,hh⟩
   ·exact⟨m,_,hm,mOwn b hh⟩
  ·exact hb.elim
  ·rw[HO.own_agree hj hag] at hb
   exact⟨j,x,hx0,hb⟩
theorem qNt{F:Mem→Prop}(hF:zP F){w0:wO}{h:List HO}{e:Env}{w:World}(S:qP F w0 h e w)(i n:Nat)(hn:n<h.length)(hv:e.row n=e.row i):qP F w0 (h.map (qNn i n)) e w:=by
 refine S.conv hF (h':=h.map (qNn i n)) (by rw[List.length_map]) (fun j x' hx'=>?_)
 rw[List.getElem?_map] at hx'
 obtain⟨x,hx,rfl⟩:=Option.map_eq_some_iff.1 hx'
 refine⟨x,hx,?_,?_,?_⟩
 ·cases x <;> rfl
 ·cases x with
  | cells xs T=>intro hs; simp only[qNn,HO.sat,wN i _ _ hv] at hs ⊢; exact hs
  | row T sz k xs=>intro hs; simp only[qNn,HO.sat,wN i _ _ hv] at hs ⊢; exact hs
  | mp ag ks kl c =>
   intro hs
   have hc:(c.map (qIp i n)).den e kl.length=c.den e kl.length:=Mc.den_map _ _ _ _ c fun xs _=>wN i n e hv xs
   simp only[qNn,HO.sat,hc] at hs ⊢
   exact hs
  | _=>exact fun hs=>hs
 ·cases x with
  | cells xs T=>exact fun hs=>qBb i n _ hn xs hs
  | row T sz k xs=>exact fun hs=>qBb i n _ hn xs hs
  | mp ag ks kl c=>exact fun hs=>Mc.ws_map _ _ (qIp i n) c (fun xs _=>qBb i n _ hn xs) hs
  | _=>exact fun hs=>hs
theorem FOk.unfocus{P:Program}{m0:Nat}{fn:Func}{Q:SV→List HO→Prop}{its:List It}{tm:List (Nat×SV)}{h:List HO}(i m k:Nat){T0 T1:TypeId}{sz n n2:Nat}{c:Nat→Nat×(Nat→Nat→qB)}{c2:Ct}(hi:h[i]?=some (.tbl T0 T1 sz n c (some (k,m))))(hm:h[m]?=some (.rowc T1 sz n2 c2))(him:i≠m)(hx:zX P m0 fn Q its ⟨zAn i h.length tm,((h.set m .gone).set i .gone++[HO.tbl T0 T1 sz n (qGf c k n2 c2.at) none]).map (qNn i h.length)⟩):zX P m0 fn Q its ⟨tm,h⟩:=by
 intro F hF w0 hw0 e a w S T0'
 have hf:∀ p,(qDs (e.val i) k (e.row m) p).oneCell'=true:=by
  intro p
  unfold qDs
  split
  ·obtain⟨oa,n',cap,hv⟩:=wG S.q (i:=m) (by rw[hm]; rfl)
   rw[hv]; rfl
  ·exact e.one i p
 have hlt:=(List.getElem?_eq_some_iff.1 hi).1
 have hag:zD h.length e ((e.setR h.length (e.row i)).setV h.length (qDs (e.val i) k (e.row m)) hf):=(zO e h.length (e.row i)).trans (jB (e.setR h.length (e.row i)) h.length _ hf) (Nat.le_refl _)
 have hl:((h.set m HO.gone).set i HO.gone++[HO.tbl T0 T1 sz n (qGf c k n2 c2.at) none]).length=h.length+1:=by simp
 have hv:((e.setR h.length (e.row i)).setV h.length (qDs (e.val i) k (e.row m)) hf).row h.length=((e.setR h.length (e.row i)).setV h.length (qDs (e.val i) k (e.row m)) hf).row i:=by
  rw[(hag.1 i hlt).2.1]; simp [Env.setR,Env.setV]
 have S2:=qNt hF (S.unfocus hF hi hm him hf) i h.length (by rw[hl]; exact Nat.lt_succ_self _) hv
 refine hx F hF w0 hw0 _ a w S2 ⟨T0'.size,T0'.defers,fun t s hs=>?_,fun t s hs=>?_⟩
 ·obtain⟨s0,q1,rfl⟩:=qGi i _ tm hs
  rw[qJx i _ _ hv,T0'.get t s0 q1,jJ hag s0 (T0'.wsc t s0 q1)]
 ·obtain⟨s0,q1,rfl⟩:=qGi i _ tm hs
  show ws (((h.set m HO.gone).set i HO.gone++[HO.tbl T0 T1 sz n (qGf c k n2 c2.at) none]).map (qNn i h.length)).length _
  rw[List.length_map,hl]
  exact qQt i _ _ (Nat.lt_succ_self _) s0 (yO (Nat.le_succ _) s0 (T0'.wsc t s0 q1))
theorem FOk.newT{P:Program}{m:Nat}{fn:Func}{Q:SV→List HO→Prop}{its:List It}{tm:List (Nat×SV)}{h:List HO}(i:Nat){T0:TypeId}{c0:Ct}(T1:TypeId)(sz:Nat)(c:Nat→Nat×(Nat→Nat→qB))(hi:h[i]?=some (.rowc T0 1 0 c0))(hx:zX P m fn Q its ⟨tm,h.set i (.tbl T0 T1 sz 0 c none)⟩):zX P m fn Q its ⟨tm,h⟩:=by
 intro F hF w0 hw0 e a w S T0'
 have hlt:=(List.getElem?_eq_some_iff.1 hi).1
 have S2:=S.conv hF (h':=h.set i (.tbl T0 T1 sz 0 c none)) (by simp) (fun j x' hx'=>by
  by_cases hji:j=i
  ·subst hji
   simp [hlt] at hx'
   subst hx'
   refine⟨_,hi,?_,?_,fun _ k q hq=>by cases hq⟩
   ·funext b
    simp only[HO.own,eq_iff_iff]
    constructor
    ·rintro(h1 | ⟨k,hk,_⟩)
     ·exact h1
     ·omega
    ·exact .inl
   ·rintro⟨qR,v1,v2,_⟩
    exact⟨⟨qR,v1,v2,fun k hk=>by omega⟩,fun k hk=>by omega,fun k k' b hk=>by omega,fun k b hk=>by omega⟩
  ·exact⟨x',wK hji hx',rfl,fun hs=>hs,fun hs=>hs⟩)
 refine hx F hF w0 hw0 e a w S2 ⟨T0'.size,T0'.defers,T0'.get,fun t s hs=>?_⟩
 show ws (h.set i (HO.tbl T0 T1 sz 0 c none)).length s
 rw[List.length_set]
 exact T0'.wsc t s hs
theorem qP.frozenV{F:Mem→Prop}{w0:wO}{h:List HO}{e:Env}{w:World}(S:qP F w0 h e w){j:Nat}{ho:HO}(hj:h[j]?=some ho){v:Value}(hown:∀ b,v.ownBlock=some b→ho.own e j b){T:TypeId}{sz n:Nat}{c:Nat→Nat→qB}{qR:List Value}(h1:w.ownsRow 0 T sz v n qR)(h2:yA ((mem w e (h.set j .gone)).sub e.z) sz n c qR):yV ((mem w e (h.set j .gone)).sub e.z) v (.s false sz n c):=by
 obtain⟨hl,h1⟩:=h1
 rcases h1 with ⟨hv,hn⟩ | ⟨g,cap,cur,hv,_,hg,hnc,_,hcs,ht⟩
 ·subst hn
  exact xV none 0 hv (Nat.le_refl _) (.inl rfl) h2
 ·refine xV (some ⟨g,0,none⟩) cap hv hnc (.inr ⟨_,rfl,fun d u hd hu=>?_⟩) h2
  have ho:=hown g (by rw[hv]; rfl)
  have hb:((mem w e (h.set j .gone)).sub e.z) g=some (.cells cur T (0,0)):=by
   unfold Mem.sub
   rw[if_neg (S.nz j _ g hj ho)]
   unfold mem
   rw[if_neg (qKm S hj ho)]
   exact hg
  rw[Addr.add_lit]
  unfold Mem.cell?
  simp only[hb]
  rw[← ht,List.getElem?_take,if_pos hd] at hu
  simpa using hu
theorem FOk.frzTb{P:Program}{m:Nat}{fn:Func}{Q:SV→List HO→Prop}{k:List It}{tm:List (Nat×SV)}{h:List HO}(i:Nat){T0' T1:TypeId}{sz n:Nat}{c:Nat→Nat×(Nat→Nat→qB)}(hi:h[i]?=some (.tbl T0' T1 sz n c none))(hk:zX P m fn Q k ⟨zBj i h.length tm,(h.set i .gone++[HO.ext false (qB.s false 1 n fun q _=>.s false sz (c q).1 (c q).2)]).map (qNe i h.length)⟩):zX P m fn Q k ⟨tm,h⟩:=by
 intro F hF w0 hw0 e a w S T0
 have hlt:=(List.getElem?_eq_some_iff.1 hi).1
 obtain⟨S1,hle⟩:=S.drop hF i hlt
 obtain⟨⟨hds,d1,d2,d3⟩,d4,d5,d6⟩:=S.sat i _ hi
 have hrow:yA ((mem w e (h.set i .gone)).sub e.z) 1 n (fun q _=>qB.s false sz (c q).1 (c q).2) hds:=by
  intro q hq j hj
  obtain⟨qR,g1,g2,g3⟩:=d4 q hq (jZ q)
  refine⟨_,by rw[show q*1+j=q by omega]; exact d3 q hq,?_⟩
  exact S.frozenV hi (fun b hb=>.inr ⟨q,hq,jZ q,hb⟩) g1 (qY (Mem.sub_mono hle _) g3)
 obtain⟨f,f1,f2,f3⟩:=S.frozenV hi (fun b hb=>.inl hb) d1 hrow
 have S2:=S1.newExt hF false (.s false 1 n fun q _=>.s false sz (c q).1 (c q).2) f f1 (by simpa using f3)
 rw[List.length_set] at S2
 have hag:=jB e h.length f f1
 have hv:(e.setV h.length f f1).val h.length []=(e.setV h.length f f1).row i:=by
  have:(e.setV h.length f f1).val h.length=f:=by simp [Env.setV]
  rw[this,f2]; rfl
 have hl:(h.set i HO.gone++[HO.ext false (qB.s false 1 n fun q _=>.s false sz (c q).1 (c q).2)]).length=h.length+1:=by simp
 have S3:=S2.conv hF (h':=(h.set i HO.gone++[HO.ext false (qB.s false 1 n fun q _=>.s false sz (c q).1 (c q).2)]).map (qNe i h.length)) (by rw[List.length_map]) (fun j x' hx'=>by
  rw[List.getElem?_map] at hx'
  obtain⟨x,hx,rfl⟩:=Option.map_eq_some_iff.1 hx'
  refine⟨x,hx,?_,?_,?_⟩
  ·cases x <;> rfl
  ·cases x with
   | cells xs T=>intro hs; simp only[qNe,HO.sat,xS i _ _ hv] at hs ⊢; exact hs
   | row T sz k xs=>intro hs; simp only[qNe,HO.sat,xS i _ _ hv] at hs ⊢; exact hs
   | _=>exact fun hs=>hs
  ·cases x with
   | cells xs T=>exact fun hs=>wW i h.length _ (by rw[hl]; exact Nat.lt_succ_self _) xs hs
   | row T sz k xs=>exact fun hs=>wW i h.length _ (by rw[hl]; exact Nat.lt_succ_self _) xs hs
   | _=>exact fun hs=>hs)
 refine hk F hF w0 hw0 _ a w S3 ⟨T0.size,T0.defers,fun t s hs=>?_,fun t s hs=>?_⟩
 ·obtain⟨s0,q1,rfl⟩:=qCd i _ tm hs
  rw[qEt i _ _ hv,T0.get t s0 q1,jJ hag s0 (T0.wsc t s0 q1)]
 ·obtain⟨s0,q1,rfl⟩:=qCd i _ tm hs
  show ws ((h.set i HO.gone++[HO.ext false (qB.s false 1 n fun q _=>.s false sz (c q).1 (c q).2)]).map (qNe i h.length)).length _
  rw[List.length_map,hl]
  exact qHx i _ _ (Nat.lt_succ_self _) s0 (yO (Nat.le_succ _) s0 (T0.wsc t s0 q1))
end Go.Sx
namespace Go.Sx
open Go.RowKit
end Go.Sx
namespace Go.Sx
open Go.RowKit
theorem qP.newTn{F:Mem→Prop}(hF:zP F){w0:wO}{h:List HO}{e:Env}{w:World}(S:qP F w0 h e w){i:Nat}{T0:TypeId}{n:Nat}{c0:Ct}(T1:TypeId)(sz:Nat)(cf:Nat→Nat→qB)(hi:h[i]?=some (.rowc T0 1 n c0))(hc:∀ k,k<n→c0.at k 0=.v (.slice none 0 0)):
  qP F w0 (h.set i .gone++[.tbl T0 T1 sz n (fun _=>(0,cf)) none]) ((e.setR h.length (e.row i)).setV h.length (fun _=>.slice none 0 0) (fun _=>rfl)) w:=by
 have hlt:=(List.getElem?_eq_some_iff.1 hi).1
 have hag:zD h.length e ((e.setR h.length (e.row i)).setV h.length (fun _=>.slice none 0 0) (fun _=>rfl)):=(zO e h.length (e.row i)).trans (jB (e.setR h.length (e.row i)) h.length _ _) (Nat.le_refl _)
 have hrow:((e.setR h.length (e.row i)).setV h.length (fun _=>.slice none 0 0) (fun _=>rfl)).row h.length=e.row i:=by simp [Env.setR,Env.setV]
 have hval:((e.setR h.length (e.row i)).setV h.length (fun _=>.slice none 0 0) (fun _=>rfl)).val h.length=fun _=>.slice none 0 0:=by simp [Env.setV]
 obtain⟨qR,v1,v2,v3⟩:=S.sat i _ hi
 have newOwn:∀ b,(HO.tbl T0 T1 sz n (fun _=>(0,cf)) none).own ((e.setR h.length (e.row i)).setV h.length (fun _=>.slice none 0 0) (fun _=>rfl)) h.length b→(HO.rowc T0 1 n c0).own e i b:=by
  intro b hb
  simp only[HO.own,hrow,hval] at hb
  rcases hb with hb | ⟨q,hq,_,hb⟩
  ·exact hb
  ·cases hb
 refine S.reown hF hag (by simp) (fun hM j x hx=>?_) (fun j x hx=>?_) (fun j1 j2 x1 x2 b hx1 hx2 hb1 hb2=>?_) (fun j x b hx hb=>?_)
 ·rcases zH hlt hx with ⟨rfl,rfl⟩ | ⟨_,rfl⟩ | ⟨_,hj,hx0⟩
  ·simp only[HO.sat,hrow,hval]
   refine⟨⟨qR,v1,v2,fun k hk=>?_⟩,fun k hk _=>⟨[],World.ownsRow_nil w 0 T1 sz,fun u hu=>(by cases hu),fun a ha=>by omega⟩,fun k k' b _ _ _ _ h1=>(by cases h1),fun k b _ _ h1=>(by cases h1)⟩
   obtain⟨u,q1,f,_,q2,q3⟩:=v3 k hk 0 (by omega)
   rw[hc k hk] at q3
   simp only[wQ] at q3
   rw[q2] at q3
   subst q3
   simp only[thd,hval]
   rw[← q1]
   congr 1
   omega
  ·trivial
  ·exact HO.sat_keep hM hj hag (S.ws j x hx0) (S.sat j x hx0) fun _ _=>rfl
 ·rw[List.length_append,List.length_set,List.length_singleton]
  rcases zH hlt hx with ⟨rfl,rfl⟩ | ⟨_,rfl⟩ | ⟨_,hj,hx0⟩
  ·intro q m hq; cases hq
  ·trivial
  ·exact HO.ws_mono (Nat.le_succ _) (S.ws j x hx0)
 ·have oldOwn:∀(j:Nat) (x:HO),j<h.length→x.own ((e.setR h.length (e.row i)).setV h.length (fun _=>.slice none 0 0) (fun _=>rfl)) j b→x.own e j b:=fun j x hj hb=>by
   rw[HO.own_agree hj hag] at hb; exact hb
  rcases zH hlt hx1 with ⟨rfl,rfl⟩ | ⟨_,rfl⟩ | ⟨n1,hj1,hy1⟩
  ·rcases zH hlt hx2 with ⟨rfl,rfl⟩ | ⟨_,rfl⟩ | ⟨n2,hj2,hy2⟩
   ·rfl
   ·exact hb2.elim
   ·exact absurd (S.one j2 i x2 _ b hy2 hi (oldOwn j2 x2 hj2 hb2) (newOwn b hb1)) n2
  ·exact hb1.elim
  ·rcases zH hlt hx2 with ⟨rfl,rfl⟩ | ⟨_,rfl⟩ | ⟨n2,hj2,hy2⟩
   ·exact absurd (S.one j1 i x1 _ b hy1 hi (oldOwn j1 x1 hj1 hb1) (newOwn b hb2)) n1
   ·exact hb2.elim
   ·exact S.one j1 j2 x1 x2 b hy1 hy2 (oldOwn j1 x1 hj1 hb1) (oldOwn j2 x2 hj2 hb2)
 ·rcases zH hlt hx with ⟨rfl,rfl⟩ | ⟨_,rfl⟩ | ⟨_,hj,hx0⟩
  ·exact⟨i,_,hi,newOwn b hb⟩
  ·exact hb.elim
  ·rw[HO.own_agree hj hag] at hb
   exact⟨j,x,hx0,hb⟩
theorem FOk.newTn{P:Program}{m0:Nat}{fn:Func}{Q:SV→List HO→Prop}{its:List It}{tm:List (Nat×SV)}{h:List HO}(i:Nat){T0:TypeId}{n:Nat}{c0:Ct}(T1:TypeId)(sz:Nat)(cf:Nat→Nat→qB)(hi:h[i]?=some (.rowc T0 1 n c0))(hc:∀ k,k<n→c0.at k 0=.v (.slice none 0 0))(hx:zX P m0 fn Q its ⟨zAn i h.length tm,(h.set i .gone++[HO.tbl T0 T1 sz n (fun _=>(0,cf)) none]).map (qNn i h.length)⟩):zX P m0 fn Q its ⟨tm,h⟩:=by
 intro F hF w0 hw0 e a w S T0'
 have hlt:=(List.getElem?_eq_some_iff.1 hi).1
 have hag:zD h.length e ((e.setR h.length (e.row i)).setV h.length (fun _=>.slice none 0 0) (fun _=>rfl)):=(zO e h.length (e.row i)).trans (jB (e.setR h.length (e.row i)) h.length _ _) (Nat.le_refl _)
 have hl:(h.set i HO.gone++[HO.tbl T0 T1 sz n (fun _=>(0,cf)) none]).length=h.length+1:=by simp
 have hv:((e.setR h.length (e.row i)).setV h.length (fun _=>.slice none 0 0) (fun _=>rfl)).row h.length=((e.setR h.length (e.row i)).setV h.length (fun _=>.slice none 0 0) (fun _=>rfl)).row i:=by
  rw[(hag.1 i hlt).2.1]; simp [Env.setR,Env.setV]
 have S2:=qNt hF (S.newTn hF T1 sz cf hi hc) i h.length (by rw[hl]; exact Nat.lt_succ_self _) hv
 refine hx F hF w0 hw0 _ a w S2 ⟨T0'.size,T0'.defers,fun t s hs=>?_,fun t s hs=>?_⟩
 ·obtain⟨s0,q1,rfl⟩:=qGi i _ tm hs
  rw[qJx i _ _ hv,T0'.get t s0 q1,jJ hag s0 (T0'.wsc t s0 q1)]
 ·obtain⟨s0,q1,rfl⟩:=qGi i _ tm hs
  show ws ((h.set i HO.gone++[HO.tbl T0 T1 sz n (fun _=>(0,cf)) none]).map (qNn i h.length)).length _
  rw[List.length_map,hl]
  exact qQt i _ _ (Nat.lt_succ_self _) s0 (yO (Nat.le_succ _) s0 (T0'.wsc t s0 q1))
end Go.Sx
/- Plans: plain data. -/
namespace Go.Pl
open Go.Sx
structure Pt where
 kd:Int
 co:Int
 of:Int
 v:Nat
def dPt:Pt:=⟨0,0,0,0⟩
def gPt(l:List Pt)(k:Nat):Pt:=l.getD k dPt
noncomputable def qCr(x:Pt)(j:Nat):qB :=
 match j with
 | 0=>.v (.int .i64 x.kd)
 | 1=>.v (.int .i64 x.co)
 | 2=>.v (.int .i64 x.of)
 | 3=>.v (.int .u64 (qF x.v 0:Nat))
 | 4=>.v (.int .u64 (qF x.v 1:Nat))
 | 5=>.v (.int .u64 (qF x.v 2:Nat))
 | 6=>.v (.int .u64 (qF x.v 3:Nat))
 | _=>.v undef
noncomputable def cPt(l:List Pt):Nat→Nat→qB:=fun k j=>qCr (gPt l k) j
def gRg(l:List (Int×List Pt))(k:Nat):Int×List Pt:=l.getD k (0,[])
noncomputable def qWz(x:Int×List Pt)(j:Nat):qB :=
 match j with
 | 0=>.v (.int .i64 x.1)
 | 1=>.s false 7 x.2.length (cPt x.2)
 | _=>.v undef
noncomputable def cRg(l:List (Int×List Pt)):Nat→Nat→qB:=fun k j=>qWz (gRg l k) j
def gTa(l:List (Int×List Nat))(k:Nat):Int×List Nat:=l.getD k (0,[])
noncomputable def qXg(x:Int×List Nat)(j:Nat):qB :=
 match j with
 | 0=>.v (.int .i64 x.1)
 | 1=>.s false 4 x.2.length (cE x.2)
 | _=>.v undef
noncomputable def cTa(l:List (Int×List Nat)):Nat→Nat→qB:=fun k j=>qXg (gTa l k) j
def dLk:(Int×Int×Int)×(Int×Int×Int):=((0,0,0),(0,0,0))
def gLk(l:List ((Int×Int×Int)×(Int×Int×Int)))(k:Nat):(Int×Int×Int)×(Int×Int×Int):=l.getD k dLk
def zDn(x:(Int×Int×Int)×(Int×Int×Int))(j:Nat):qB :=
 match j with
 | 0=>.v (.int .i64 x.1.1)
 | 1=>.v (.int .i64 x.1.2.1)
 | 2=>.v (.int .i64 x.1.2.2)
 | 3=>.v (.int .i64 x.2.1)
 | 4=>.v (.int .i64 x.2.2.1)
 | 5=>.v (.int .i64 x.2.2.2)
 | _=>.v undef
def cLk(l:List ((Int×Int×Int)×(Int×Int×Int))):Nat→Nat→qB:=fun k j=>zDn (gLk l k) j
structure Pln where
 rg:List (Int×List Pt)
 tb:List (Int×List Nat)
 lk:List ((Int×Int×Int)×(Int×Int×Int))
 is:List (List Nat)
def Pt.ok(x:Pt):Prop:=i64 x.kd∧i64 x.co∧i64 x.of∧x.v<top
def zOd(l:List Pt):Prop:=(∀ x∈l,x.ok)∧l.length*56≤140737488351232
structure Pln.ok (p:Pln):Prop where
 r:(∀ x∈p.rg,i64 x.1∧zOd x.2)∧p.rg.length*32≤140737488351232
 t:(∀ x∈p.tb,i64 x.1∧(∀ v∈x.2,v<top)∧x.2.length*32≤140737488351232)∧p.tb.length*32≤140737488351232
 l:(∀ x∈p.lk,(i64 x.1.1∧i64 x.1.2.1∧i64 x.1.2.2)∧i64 x.2.1∧i64 x.2.2.1∧i64 x.2.2.2)∧p.lk.length*48≤140737488351232
 i:okT p.is
structure lPn (n0 n1 n2 n3:Nat) (c0 c1 c2 c3:Nat→Nat→qB) (k:Pln→Prop):Prop where
 h:∃ p:Pln,(n0=p.rg.length∧IsC n0 2 c0 (cRg p.rg))∧(n1=p.tb.length∧IsC n1 2 c1 (cTa p.tb))∧(n2=p.lk.length∧IsC n2 6 c2 (cLk p.lk))∧(n3=p.is.length∧IsC n3 1 c3 (cT p.is))∧p.ok∧k p
theorem qYe(p:Pln)(hp:p.ok){k:Pln→Prop}(h:k p):lPn p.rg.length p.tb.length p.lk.length p.is.length (cRg p.rg) (cTa p.tb) (cLk p.lk) (cT p.is) k :=
 ⟨⟨p,⟨rfl,IsC.refl _ _ _⟩,⟨rfl,IsC.refl _ _ _⟩,⟨rfl,IsC.refl _ _ _⟩,⟨rfl,IsC.refl _ _ _⟩,hp,h⟩⟩
theorem qJv{l:List Pt}{k:Nat}(h:k<l.length):gPt l k∈l:=by
 rw[gPt,List.getD_eq_getElem?_getD,List.getElem?_eq_getElem h]; exact List.getElem_mem h
theorem zR{l:List (Int×List Pt)}{k:Nat}(h:k<l.length):gRg l k∈l:=by
 rw[gRg,List.getD_eq_getElem?_getD,List.getElem?_eq_getElem h]; exact List.getElem_mem h
theorem wY{l:List (Int×List Nat)}{k:Nat}(h:k<l.length):gTa l k∈l:=by
 rw[gTa,List.getD_eq_getElem?_getD,List.getElem?_eq_getElem h]; exact List.getElem_mem h
theorem qJr{l:List ((Int×Int×Int)×(Int×Int×Int))}{k:Nat}(h:k<l.length):gLk l k∈l:=by
 rw[gLk,List.getD_eq_getElem?_getD,List.getElem?_eq_getElem h]; exact List.getElem_mem h
theorem qAk{l:List Pt}{k:Nat}(h:k<l.length):l.drop k=gPt l k::l.drop (k+1):=by
 rw[List.drop_eq_getElem_cons h,gPt,List.getD_eq_getElem?_getD,List.getElem?_eq_getElem h]; rfl
theorem qLs{l:List (Int×List Pt)}{k:Nat}(h:k<l.length):l.drop k=gRg l k::l.drop (k+1):=by
 rw[List.drop_eq_getElem_cons h,gRg,List.getD_eq_getElem?_getD,List.getElem?_eq_getElem h]; rfl
theorem qEd{l:List (Int×List Nat)}{k:Nat}(h:k<l.length):l.drop k=gTa l k::l.drop (k+1):=by
 rw[List.drop_eq_getElem_cons h,gTa,List.getD_eq_getElem?_getD,List.getElem?_eq_getElem h]; rfl
theorem zDo{l:List ((Int×Int×Int)×(Int×Int×Int))}{k:Nat}(h:k<l.length):l.drop k=gLk l k::l.drop (k+1):=by
 rw[List.drop_eq_getElem_cons h,gLk,List.getD_eq_getElem?_getD,List.getElem?_eq_getElem h]; rfl
def zJ(l:List Nat)(r v:Nat):List Nat:=(l++List.replicate (r+1-l.length) 0).set r v
theorem qUv(l:List Nat)(r v:Nat):(zJ l r v).length=max l.length (r+1):=by
 rw[zJ,List.length_set,List.length_append,List.length_replicate]; omega
theorem zEl(l:List Nat)(r v k:Nat)(h:r<l.length):gE (l.set r v) k=if k=r then v else gE l k:=by
 simp only[gE,List.getD_eq_getElem?_getD,List.getElem?_set]
 by_cases hk:r=k
 ·subst hk; rw[if_pos rfl,if_pos h,if_pos rfl]; rfl
 ·rw[if_neg hk,if_neg (fun hh=>hk hh.symm)]
theorem qRi(l:List Nat)(r v:Nat)(h:r<l.length):IsC l.length 4 (Ct.upd (Ct.fn (cE l)) r 0 [qB.v (.int .u64 (qF v 0:Nat)),qB.v (.int .u64 (qF v 1:Nat)),qB.v (.int .u64 (qF v 2:Nat)),qB.v (.int .u64 (qF v 3:Nat))]).at (Ct.fn (cE (l.set r v))).at:=by
 intro k hk y hy
 show qNa (cE l) r 0 _ k y=cE (l.set r v) k y
 rw[qNa]
 show _=qB.v (.int .u64 (qF (gE (l.set r v) k) y:Nat))
 rw[zEl l r v k h]
 by_cases hkj:k=r
 ·subst hkj
  rw[Nat.beq_refl,Bool.true_and,show Nat.ble 0 y=true from rfl,cond_true,Nat.sub_zero,if_pos rfl]
  match y,hy with
  | 0,_=>rfl
  | 1,_=>rfl
  | 2,_=>rfl
  | 3,_=>rfl
 ·have hb:Nat.beq k r=false:=by
   rw[Bool.eq_false_iff]
   intro hh
   exact hkj (Nat.eq_of_beq_eq_true hh)
  rw[hb,Bool.false_and,cond_false,if_neg hkj]
  rfl
end Go.Pl
namespace Go.Proofs.YtlmjdcbhpffanaaGreat
open Go.Sx Go.Pl
set_option linter.unusedVariables false
set_option maxRecDepth 100000
end Go.Proofs.YtlmjdcbhpffanaaGreat
/- Puts of a plan: plain. -/
namespace Go.Pl
open Go.Sx
structure lPt (ck:Nat→Nat→qB) (k:Pt→Prop):Prop where
 h:∃ x:Pt,IsC 1 7 ck (fun _ j=>qCr x j)∧k x
theorem zOi(x:Pt){k:Pt→Prop}(h:k x):lPt (lc 7 [.v (.int .i64 x.1),.v (.int .i64 x.2),.v (.int .i64 x.3),.v (.int .u64 (qF x.4 0:Nat)),.v (.int .u64 (qF x.4 1:Nat)),.v (.int .u64 (qF x.4 2:Nat)),.v (.int .u64 (qF x.4 3:Nat))]) k:=⟨⟨x,fun i hi j hj=>by
 have:i=0:=by omega
 subst i
 match j,hj with
 | 0,_=>rfl
 | 1,_=>rfl
 | 2,_=>rfl
 | 3,_=>rfl
 | 4,_=>rfl
 | 5,_=>rfl
 | 6,_=>rfl,h⟩⟩
structure lTa (n:Nat) (c:Nat→Nat→qB) (k:List (Int×List Nat)→Prop):Prop where
 h:∃ l:List (Int×List Nat),n=l.length∧IsC n 2 c (cTa l)∧l.length≤17592186043904∧k l
def qCg(co:Int)(t:Int×List Nat):Bool:=t.1==co
theorem jO{Q:Bool→Prop}{b x y:Bool}{X Y:Prop}(h:Q (bif b then x else y))(hx:Q x→X)(hy:Q y→Y):bif b then X else Y:=by
 cases b
 ·exact hy h
 ·exact hx h
theorem zGm(kd co fr:Int){k:Pt→Prop}(h:k ⟨kd,co,fr,0⟩):lPt (lc 7 [.v (.int .i64 kd),.v (.int .i64 co),.v (.int .i64 fr),.v (.int .u64 0),.v (.int .u64 0),.v (.int .u64 0),.v (.int .u64 0)]) k:=by
 have:=zOi ⟨kd,co,fr,0⟩ h
 simp only[qPy] at this
 exact this
theorem qTx{q:Int×List Nat→Bool}{l:List (Int×List Nat)}{k:Nat}(h:k<l.length):zB q k (l.drop k)=if q (gTa l k) then(k:Int) else zB q (k+1) (l.drop (k+1)):=by
 rw[qEd h,zB]
structure lSh (fx ad ins:Int) (n0 n1 n2 n3 m0 m1 m2 m3:Nat) (c0 c1 c2 c3 d0 d1 d2 d3:Nat→Nat→qB) (k:Cir→Pln→Prop):Prop where
 h:lC fx ad ins n0 n1 n2 n3 c0 c1 c2 c3 fun c=>lPn m0 m1 m2 m3 d0 d1 d2 d3 fun p=>k c p
theorem jX(c:Cir)(hc:c.ok)(p:Pln)(hp:p.ok){k:Cir→Pln→Prop}(h:k c p):lSh c.fx c.ad c.ins c.nodes.length c.gates.length c.looks.length c.eqs.length p.rg.length p.tb.length p.lk.length p.is.length (cN c.nodes) (cI c.gates) (cL c.looks) (cK c.eqs) (cRg p.rg) (cTa p.tb) (cLk p.lk) (cT p.is) k:=⟨qBt c hc (qYe p hp h)⟩
def qGm(c:Cir)(p:Pln)(rows kd co fr:Int):Bool:=bif !jY [[(2:Int)],[(3:Int)]] [kd] then false else bif decide (co<(0:Int)) then false else bif decide (zG [[(2:Int)],[(3:Int)]] (qU [[(2:Int)]] (qU [] [] [(2:Int)] c.1) [(3:Int)] c.2) [kd]≤co) then false else bif decide (fr<(0:Int)) then false else bif decide (rows≤fr) then false else bif !kd==(2:Int) then true else !p.tb.any (qCg co)
end Go.Pl
namespace Go.Proofs.YtlmjdcbhpffanaaGreat
open Go.Sx Go.Pl
set_option linter.unusedVariables false
set_option maxRecDepth 100000
end Go.Proofs.YtlmjdcbhpffanaaGreat
/- Is a put in a table's column? -/
namespace Go.Proofs.YtlmjdcbhpffanaaGreat
open Go.Sx Go.Pl
set_option linter.unusedVariables false
set_option maxRecDepth 100000
theorem zUe(b:Bool)(l:List (Int×List Nat))(x:Pt)(K:List It→St→Prop)(R:SV→List HO→Prop):W (xwp Tryz.prog X K74 [(135,[])] 60 (qO Tryz.f144 [] [⟨[0,1,0,1],[8,7,0,1],[]⟩]) [] [.at []] ⟨qQ 0 [.x 0 [],.fn (.func 135) [] [.x 1 []]],[.ext b (.s false 2 l.length (cTa l)),.ext true (.s true 7 1 (fun _ j=>qCr x j))]⟩ K R)=W (K [.at [0,1,0,1],.blk 0,.at [1,1]] (St.mk [(8,.v (qA 0)),(7,.v (qA (↑l.length:Int))),(0,.x 0 []),(1,SV.fn (Fn.func 135) [] [.x 1 []])] [.ext b (.s false 2 l.length (cTa l)),.ext true (.s true 7 1 fun(x_1 j:Nat)=>qCr x j)])):=by kernel_rfl
theorem zPz(b:Bool)(l:List (Int×List Nat))(x:Pt)(k M:Nat)(K:List It→St→Prop)(R:SV→List HO→Prop):W (xwp Tryz.prog X K74 [(135,[])] 60 (qO Tryz.f144 [] [⟨[0,1,0,1],[8,7,0,1],[]⟩]) [] (.at [0,0,1,0,1]::.rnd [0,0,1,0,1] M::[.blk 0,.at [1,1]]) ⟨[(8,.v (.int .i64 (k:Int))),(7,.v (.int .i64 (l.length:Int))),(0,.x 0 []),(1,.fn (.func 135) [] [.x 1 []])],[.ext b (.s false 2 l.length (cTa l)),.ext true (.s true 7 1 (fun _ j=>qCr x j))]⟩ K R)=W (bif decide ((↑k:Int)<(↑l.length:Int)) then(∀ M:Mem,(0:Int)≤(↑k:Int)∧(↑k:Int)<(↑l.length:Int))∧(∀ M:Mem,k<List.length l)∧(∀ M:Mem,k<List.length l)∧(∀ M:Mem,0<1)∧(∀ M:Mem,0<1)∧bif(gTa l k).1==x.2 then R (.v (qA (↑k:Int))) [] else K [.rnd [0,0,1,0,1] M,.blk 0,.at [1,1]] (St.mk [(8,.v (qA (IntKind.wrap .i64 ((↑k:Int)+(1:Int))))),(7,.v (qA (↑l.length:Int))),(0,.x 0 []),(1,SV.fn (Fn.func 135) [] [.x 1 []])] [.ext b (.s false 2 l.length (cTa l)),.ext true (.s true 7 1 fun(x_1 j:Nat)=>qCr x j)]) else R (.v (qA (-1))) []):=by kernel_rfl
theorem qVf(b:Bool)(l:List (Int×List Nat))(x:Pt)(hb:l.length≤17592186043904)(Q:SV→List HO→Prop):∀(d k:Nat),k+d=l.length→Q (.v (.int .i64 (zB (qCg x.co) k (l.drop k)))) [] →
  FOk Tryz.prog Tryz.f144 Q (.rnd [0,0,1,0,1] (d+1)::[.blk 0,.at [1,1]]) ⟨[(8,.v (.int .i64 (k:Int))),(7,.v (.int .i64 (l.length:Int))),(0,.x 0 []),(1,.fn (.func 135) [] [.x 1 []])],[.ext b (.s false 2 l.length (cTa l)),.ext true (.s true 7 1 (fun _ j=>qCr x j))]⟩
 | 0,k,hd,hq=>by
  refine FOk.rnd (qC hm 60 ((zPz b l x k 0 _ _).mpr ⟨?_⟩))
  rw[qD,if_neg (by omega)]
  rw[show k=l.length by omega,List.drop_length] at hq
  exact hq
 | d+1,k,hd,hq=>by
  have hk:k<l.length:=by omega
  refine FOk.rnd (qC hm 60 ((zPz b l x k (d+1) _ _).mpr ⟨?_⟩))
  rw[qD,if_pos (by omega),qK _ (by omega)]
  rw[qTx hk,qCg] at hq
  repeat' (refine And.intro (fun _=>by omega) ?_)
  refine qJ (fun h=>?_) (fun h=>?_)
  ·rw[h] at hq; exact hq
  ·rw[h] at hq; exact qVf b l x hb Q d (k+1) (by omega) hq
theorem zXb:Tryz.f144.body.isSome=true:=by kernel_rfl
theorem zVh:Nat.ble [SV.x 0 [],.fn (.func 135) [] [.x 1 []]].length Tryz.f144.ntmps=true:=by kernel_rfl
theorem zKz(b:Bool)(l:List (Int×List Nat))(x:Pt)(hb:l.length≤17592186043904)(Q:SV→List HO→Prop)(hq:Q (.v (.int .i64 (zB (qCg x.co) 0 l))) []):qI Tryz.prog 144 [.x 0 [],.fn (.func 135) [] [.x 1 []]] [.ext b (.s false 2 l.length (cTa l)),.ext true (.s true 7 1 (fun _ j=>qCr x j))] Q:=by
 refine qL Tryz.func144 zXb ?_ ?_
 ·exact zVh
 refine qC hm 60 ((zUe b l x _ _).mpr ⟨?_⟩)
 exact FOk.loop (l.length+1) (by kernel_rfl) (qVf b l x hb Q l.length 0 (by omega) hq)
noncomputable def zJj:List SV→List HO→Option ((SV→List HO→Prop)→Prop)
 | [.x 0 [],.fn (.func 135) [] [.x 1 []]],[.ext _ (.s false 2 n c),.ext true (.s true 7 1 ck)]=>some fun Q=>lTa n c fun l=>lPt ck fun x=>Q (.v (.int .i64 (zB (qCg x.co) 0 l))) []
 | _,_=>none
theorem zFq(args:List SV)(h:List HO)(tr:(SV→List HO→Prop)→Prop)(Q:SV→List HO→Prop)(hc:zJj args h=some tr)(ht:tr Q):qI Tryz.prog 144 args h Q:=by
 unfold zJj at hc
 split at hc
 ·simp only[sI] at hc
  subst hc
  obtain⟨l,rfl,he,hb,hk⟩:=ht.h
  obtain⟨x,e1,hq⟩:=hk.h
  exact qI.ac (zKz _ l x hb Q hq) ⟨⟨rfl,rfl,rfl,rfl,he⟩,⟨rfl,rfl,rfl,rfl,e1⟩,trivial⟩
 ·cases hc
noncomputable def zRg:Con Tryz.prog:=K74.add 144 zJj zFq
end Go.Proofs.YtlmjdcbhpffanaaGreat
/- Is a put right? -/
namespace Go.Proofs.YtlmjdcbhpffanaaGreat
open Go.Sx Go.Pl
set_option linter.unusedVariables false
set_option maxRecDepth 100000
theorem zVz(c:Cir)(p:Pln)(u rows:Int)(ps:List Pt)(kd co fr:Int)(K:List It→St→Prop)(R:SV→List HO→Prop):W (xwp Tryz.prog X zRg [(134,[])] 60 (qO Tryz.f111 [] []) [] [.at []] ⟨qQ 0 [.agg [.v (.int .i64 c.1),.v (.int .i64 c.2),.v (.int .i64 c.3),.x 0 [],.x 1 [],.x 2 [],.x 3 [],.x 4 [],.x 5 [],.x 6 [],.x 7 [],.v (.int .i64 u)],.agg [.v (.int .i64 rows),.x 8 []],.agg [.v (.int .i64 kd),.v (.int .i64 co),.v (.int .i64 fr),.v (.int .u64 0),.v (.int .u64 0),.v (.int .u64 0),.v (.int .u64 0)]],[.ext false (.s false 7 c.4.length (cN c.4)),.ext false (.s false 1 c.5.length (cI c.5)),.ext false (.s false 2 c.6.length (cL c.6)),.ext false (.s false 2 c.7.length (cK c.7)),.ext false (.s false 2 p.1.length (cRg p.1)),.ext false (.s false 2 p.2.length (cTa p.2)),.ext false (.s false 6 p.3.length (cLk p.3)),.ext false (.s false 1 p.4.length (cT p.4)),.ext false (.s false 7 ps.length (cPt ps))]⟩ K R)=W (bif !jY [[(2:Int)],[(3:Int)]] [kd] then R (.v (.bool false)) [] else bif decide (co<(0:Int)) then R (.v (.bool false)) [] else bif decide (zG [[(2:Int)],[(3:Int)]] (qU [[(2:Int)]] (qU [] [] [(2:Int)] c.1) [(3:Int)] c.2) [kd]≤co) then R (.v (.bool false)) [] else bif decide (fr<(0:Int)) then R (.v (.bool false)) [] else bif decide (rows≤fr) then R (.v (.bool false)) [] else bif !kd==(2:Int) then R (.v (.bool true)) [] else lTa p.2.length (cTa p.2) fun(l:List (Int×List Nat))=>lPt (lc 7 [.v (qA kd),.v (qA co),.v (qA fr),.v (qE 0),.v (qE 0),.v (qE 0),.v (qE 0)]) fun(x:Pt)=>R (.v (.bool !decide ((0:Int)≤zB (qCg x.2) 0 l))) []):=by kernel_rfl
theorem zUz:Tryz.f111.body.isSome=true:=by kernel_rfl
theorem zXe(c:Cir)(u rows kd co fr:Int):Nat.ble ([.agg [.v (.int .i64 c.1),.v (.int .i64 c.2),.v (.int .i64 c.3),.x 0 [],.x 1 [],.x 2 [],.x 3 [],.x 4 [],.x 5 [],.x 6 [],.x 7 [],.v (.int .i64 u)],.agg [.v (.int .i64 rows),.x 8 []],.agg [.v (.int .i64 kd),.v (.int .i64 co),.v (.int .i64 fr),.v (.int .u64 0),.v (.int .u64 0),.v (.int .u64 0),.v (.int .u64 0)]]:List SV).length Tryz.f111.ntmps=true:=by kernel_rfl
theorem zJw(c:Cir)(p:Pln)(hp:p.ok)(u rows:Int)(ps:List Pt)(kd co fr:Int)(Q:SV→List HO→Prop)(hq:Q (.v (.bool (qGm c p rows kd co fr))) []):qI Tryz.prog 111 [.agg [.v (.int .i64 c.1),.v (.int .i64 c.2),.v (.int .i64 c.3),.x 0 [],.x 1 [],.x 2 [],.x 3 [],.x 4 [],.x 5 [],.x 6 [],.x 7 [],.v (.int .i64 u)],.agg [.v (.int .i64 rows),.x 8 []],.agg [.v (.int .i64 kd),.v (.int .i64 co),.v (.int .i64 fr),.v (.int .u64 0),.v (.int .u64 0),.v (.int .u64 0),.v (.int .u64 0)]] [.ext false (.s false 7 c.4.length (cN c.4)),.ext false (.s false 1 c.5.length (cI c.5)),.ext false (.s false 2 c.6.length (cL c.6)),.ext false (.s false 2 c.7.length (cK c.7)),.ext false (.s false 2 p.1.length (cRg p.1)),.ext false (.s false 2 p.2.length (cTa p.2)),.ext false (.s false 6 p.3.length (cLk p.3)),.ext false (.s false 1 p.4.length (cT p.4)),.ext false (.s false 7 ps.length (cPt ps))] Q:=by
 refine qL Tryz.func111 zUz ?_ ?_
 ·exact zXe c u rows kd co fr
 have h1:=hp.t.2
 refine qC hm 60 ((zVz c p u rows ps kd co fr _ _).mpr ⟨?_⟩)
 refine jO (Q:=fun v=>Q (.v (.bool v)) []) hq id (fun hq=>jO (Q:=fun v=>Q (.v (.bool v)) []) hq id (fun hq=>jO (Q:=fun v=>Q (.v (.bool v)) []) hq id (fun hq=>jO (Q:=fun v=>Q (.v (.bool v)) []) hq id (fun hq=>jO (Q:=fun v=>Q (.v (.bool v)) []) hq id (fun hq=>jO (Q:=fun v=>Q (.v (.bool v)) []) hq id (fun hq=>?_))))))
 refine⟨⟨p.tb,rfl,IsC.refl _ _ _,by omega,zGm kd co fr ?_⟩⟩
 rw[jC]
 exact hq
noncomputable def zOj:List SV→List HO→Option ((SV→List HO→Prop)→Prop)
 | [.agg [.v (.int .i64 fx),.v (.int .i64 ad),.v (.int .i64 ins),.x 0 [],.x 1 [],.x 2 [],.x 3 [],.x 4 [],.x 5 [],.x 6 [],.x 7 [],.v (.int .i64 u)],.agg [.v (.int .i64 rows),.x 8 []],.agg [.v (.int .i64 kd),.v (.int .i64 co),.v (.int .i64 fr),.v (.int .u64 0),.v (.int .u64 0),.v (.int .u64 0),.v (.int .u64 0)]],[.ext false (.s false 7 n0 c0),.ext false (.s false 1 n1 c1),.ext false (.s false 2 n2 c2),.ext false (.s false 2 n3 c3),.ext false (.s false 2 m0 d0),.ext false (.s false 2 m1 d1),.ext false (.s false 6 m2 d2),.ext false (.s false 1 m3 d3),.ext false (.s false 7 q cq)] =>
  some fun Q=>lSh fx ad ins n0 n1 n2 n3 m0 m1 m2 m3 c0 c1 c2 c3 d0 d1 d2 d3 fun c p=>(∃ ps:List Pt,q=ps.length∧IsC q 7 cq (cPt ps))∧Q (.v (.bool (qGm c p rows kd co fr))) []
 | _,_=>none
theorem zHi(args:List SV)(h:List HO)(tr:(SV→List HO→Prop)→Prop)(Q:SV→List HO→Prop)(hc:zOj args h=some tr)(ht:tr Q):qI Tryz.prog 111 args h Q:=by
 unfold zOj at hc
 split at hc
 ·simp only[sI] at hc
  subst hc
  obtain⟨c,rfl,rfl,rfl,⟨rfl,e0⟩,⟨rfl,e1⟩,⟨rfl,e2⟩,⟨rfl,e3⟩,hk,ht2⟩:=ht.h.h
  obtain⟨p,⟨rfl,e4⟩,⟨rfl,e5⟩,⟨rfl,e6⟩,⟨rfl,e7⟩,hp,⟨ps,rfl,e8⟩,hq⟩:=ht2.h
  exact qI.ac (zJw c p hp _ _ ps _ _ _ Q hq) ⟨⟨rfl,rfl,rfl,rfl,e0⟩,⟨rfl,rfl,rfl,rfl,e1⟩,⟨rfl,rfl,rfl,rfl,e2⟩,⟨rfl,rfl,rfl,rfl,e3⟩,⟨rfl,rfl,rfl,rfl,e4⟩,⟨rfl,rfl,rfl,rfl,e5⟩,⟨rfl,rfl,rfl,rfl,e6⟩,⟨rfl,rfl,rfl,rfl,e7⟩,⟨rfl,rfl,rfl,rfl,e8⟩,trivial⟩
 ·cases hc
noncomputable def zBu:Con Tryz.prog:=zRg.add 111 zOj zHi
end Go.Proofs.YtlmjdcbhpffanaaGreat
/- Regions and tables of a plan: plain. -/
namespace Go.Pl
open Go.Sx
def ptK(x:Pt):List Int:=[x.1,x.2,x.3,(0:Int),(0:Int),(0:Int),(0:Int)]
def qXr(c:Cir)(p:Pln)(rows:Int):List (List Int)→List Pt→Bool
 | met,x::t=>bif jY met (ptK x) then false else bif !qGm c p rows x.1 x.2 x.3 then false else qXr c p rows (zK met (ptK x)) t
 | _,[]=>true
def qAm(c:Cir)(p:Pln)(r:Int×List Pt):Bool:=bif decide (r.1<(1:Int)) then false else bif decide ((64:Int)<(r.2.length:Int)) then false else qXr c p r.1 [] r.2
def qNp(fx:Int):List (List Int)→List (Int×List Nat)→Bool
 | met,t::r=>bif jY met [t.1] then false else bif decide (t.1<(0:Int)) then false else bif decide (fx≤t.1) then false else qNp fx (zK met [t.1]) r
 | _,[]=>true
end Go.Pl
namespace Go.Proofs.YtlmjdcbhpffanaaGreat
open Go.Sx Go.Pl
set_option linter.unusedVariables false
set_option maxRecDepth 100000
end Go.Proofs.YtlmjdcbhpffanaaGreat
/- Regions and tables of a plan: are they right? -/
namespace Go.Proofs.YtlmjdcbhpffanaaGreat
open Go.Sx Go.Pl
set_option linter.unusedVariables false
set_option maxRecDepth 100000
theorem zUb(c:Cir)(p:Pln)(u rows:Int)(ps:List Pt)(K:List It→St→Prop)(R:SV→List HO→Prop):W (xwp Tryz.prog X zBu [] 60 (qO Tryz.f71 [] [⟨[0,1,0,1,1,1],[23,22,21,5,3,2],[]⟩]) [] [.at []] ⟨qQ 0 [.agg [.v (.int .i64 c.1),.v (.int .i64 c.2),.v (.int .i64 c.3),.x 0 [],.x 1 [],.x 2 [],.x 3 [],.x 4 [],.x 5 [],.x 6 [],.x 7 [],.v (.int .i64 u)],.agg [.v (.int .i64 rows),.x 8 []]],[.ext false (.s false 7 c.4.length (cN c.4)),.ext false (.s false 1 c.5.length (cI c.5)),.ext false (.s false 2 c.6.length (cL c.6)),.ext false (.s false 2 c.7.length (cK c.7)),.ext false (.s false 2 p.1.length (cRg p.1)),.ext false (.s false 2 p.2.length (cTa p.2)),.ext false (.s false 6 p.3.length (cLk p.3)),.ext false (.s false 1 p.4.length (cT p.4)),.ext false (.s false 7 ps.length (cPt ps))]⟩ K R)=W (bif decide (rows<(1:Int)) then R (.v (.bool false)) [] else bif decide ((64:Int)<(↑ps.length:Int)) then R (.v (.bool false)) [] else K [.at [0,1,0,1,1,1],.blk 0,.at [1,1,1,1]] (St.mk [(23,.v (qA 0)),(22,.v (qA (↑ps.length:Int))),(21,.x 0 []),(5,.m 1),(3,.p 2 0),(2,.p 3 0)] [.ext false (.s false 7 ps.length (cPt ps)),.mp true [IntKind.i64,IntKind.i64,IntKind.i64,IntKind.u64,IntKind.u64,IntKind.u64,IntKind.u64] [] Mc.unit,.cells [.v (qA rows),.x 0 []] 50,.cells [.v (qA c.1),.v (qA c.2),.v (qA c.3),.x 4 [],.x 5 [],.x 6 [],.x 7 [],.x 8 [],.x 9 [],.x 10 [],.x 11 [],.v (qA u)] 84,.ext false (.s false 7 c.4.length (cN c.4)),.ext false (.s false 1 c.5.length (cI c.5)),.ext false (.s false 2 c.6.length (cL c.6)),.ext false (.s false 2 c.7.length (cK c.7)),.ext false (.s false 2 p.1.length (cRg p.1)),.ext false (.s false 2 p.2.length (cTa p.2)),.ext false (.s false 6 p.3.length (cLk p.3)),.ext false (.s false 1 p.4.length (cT p.4))])):=by kernel_rfl
theorem zPy(c:Cir)(p:Pln)(u:Int)(K:List It→St→Prop)(R:SV→List HO→Prop):W (xwp Tryz.prog X zBu [] 60 (qO Tryz.f67 [] [⟨[0,1,0,1,1],[13,12,11,3,1],[]⟩]) [] [.at []] ⟨qQ 0 [.agg [.v (.int .i64 c.1),.v (.int .i64 c.2),.v (.int .i64 c.3),.x 0 [],.x 1 [],.x 2 [],.x 3 [],.x 4 [],.x 5 [],.x 6 [],.x 7 [],.v (.int .i64 u)]],[.ext false (.s false 7 c.4.length (cN c.4)),.ext false (.s false 1 c.5.length (cI c.5)),.ext false (.s false 2 c.6.length (cL c.6)),.ext false (.s false 2 c.7.length (cK c.7)),.ext false (.s false 2 p.1.length (cRg p.1)),.ext false (.s false 2 p.2.length (cTa p.2)),.ext false (.s false 6 p.3.length (cLk p.3)),.ext false (.s false 1 p.4.length (cT p.4))]⟩ K R)=W (K [.at [0,1,0,1,1],.blk 0,.at [1,1,1]] (St.mk [(13,.v (qA 0)),(12,.v (qA (↑p.2.length:Int))),(11,.x 0 []),(3,.m 1),(1,.p 2 0)] [.ext false (.s false 2 p.2.length (cTa p.2)),.mp false [IntKind.i64] [] Mc.unit,.cells [.v (qA c.1),.v (qA c.2),.v (qA c.3),.x 3 [],.x 4 [],.x 5 [],.x 6 [],.x 7 [],.x 0 [],.x 8 [],.x 9 [],.v (qA u)] 84,.ext false (.s false 7 c.4.length (cN c.4)),.ext false (.s false 1 c.5.length (cI c.5)),.ext false (.s false 2 c.6.length (cL c.6)),.ext false (.s false 2 c.7.length (cK c.7)),.ext false (.s false 2 p.1.length (cRg p.1)),.ext false (.s false 6 p.3.length (cLk p.3)),.ext false (.s false 1 p.4.length (cT p.4))])):=by kernel_rfl
theorem zTr(c:Cir)(p:Pln)(u rows:Int)(ps:List Pt)(kl:List (List Int))(k M:Nat)(K:List It→St→Prop)(R:SV→List HO→Prop):W (xwp Tryz.prog X zBu [] 60 (qO Tryz.f71 [] [⟨[0,1,0,1,1,1],[23,22,21,5,3,2],[]⟩]) [] (.at [0,0,1,0,1,1,1]::.rnd [0,0,1,0,1,1,1] M::[.blk 0,.at [1,1,1,1]]) (St.mk [(23,.v (qA (k:Int))),(22,.v (qA (↑ps.length:Int))),(21,.x 0 []),(5,.m 1),(3,.p 2 0),(2,.p 3 0)] [.ext false (.s false 7 ps.length (cPt ps)),.mp true [IntKind.i64,IntKind.i64,IntKind.i64,IntKind.u64,IntKind.u64,IntKind.u64,IntKind.u64] kl Mc.unit,.cells [.v (qA rows),.x 0 []] 50,.cells [.v (qA c.1),.v (qA c.2),.v (qA c.3),.x 4 [],.x 5 [],.x 6 [],.x 7 [],.x 8 [],.x 9 [],.x 10 [],.x 11 [],.v (qA u)] 84,.ext false (.s false 7 c.4.length (cN c.4)),.ext false (.s false 1 c.5.length (cI c.5)),.ext false (.s false 2 c.6.length (cL c.6)),.ext false (.s false 2 c.7.length (cK c.7)),.ext false (.s false 2 p.1.length (cRg p.1)),.ext false (.s false 2 p.2.length (cTa p.2)),.ext false (.s false 6 p.3.length (cLk p.3)),.ext false (.s false 1 p.4.length (cT p.4))]) K R)=W (bif decide ((↑k:Int)<(↑ps.length:Int)) then(∀ M:Mem,(0:Int)≤(↑k:Int)∧(↑k:Int)<(↑ps.length:Int))∧(∀ M:Mem,k<List.length ps)∧(∀ M:Mem,0+7≤7)∧(∀ M:Mem,7≤7)∧(∀ M:Mem,0≤0)∧bif jY kl [(gPt ps k).1,(gPt ps k).2,(gPt ps k).3,(0:Int),(0:Int),(0:Int),(0:Int)] then R (.v (.bool false)) [] else lSh c.1 c.2 c.3 c.4.length c.5.length c.6.length c.7.length p.1.length p.2.length p.3.length p.4.length (cN c.4) (cI c.5) (cL c.6) (cK c.7) (cRg p.1) (cTa p.2) (cLk p.3) (cT p.4) fun(c_1:Cir) (p_1:Pln)=>(∃(ps_1:List Pt),List.length ps=List.length ps_1∧IsC ps.length 7 (cPt ps) (cPt ps_1))∧bif !qGm c_1 p_1 rows (gPt ps k).1 (gPt ps k).2 (gPt ps k).3 then R (.v (.bool false)) [] else K [.rnd [0,0,1,0,1,1,1] M,.blk 0,.at [1,1,1,1]] (St.mk [(23,.v (qA (IntKind.wrap .i64 ((↑k:Int)+(1:Int))))),(22,.v (qA (↑ps.length:Int))),(21,.x 0 []),(5,.m 1),(3,.p 2 0),(2,.p 3 0)] [.ext false (.s false 7 ps.length (cPt ps)),.mp true [IntKind.i64,IntKind.i64,IntKind.i64,IntKind.u64,IntKind.u64,IntKind.u64,IntKind.u64] (zK kl [(gPt ps k).1,(gPt ps k).2,(gPt ps k).3,(0:Int),(0:Int),(0:Int),(0:Int)]) Mc.unit,.cells [.v (qA rows),.x 0 []] 50,.cells [.v (qA c.1),.v (qA c.2),.v (qA c.3),.x 4 [],.x 5 [],.x 6 [],.x 7 [],.x 8 [],.x 9 [],.x 10 [],.x 11 [],.v (qA u)] 84,.ext false (.s false 7 c.4.length (cN c.4)),.ext false (.s false 1 c.5.length (cI c.5)),.ext false (.s false 2 c.6.length (cL c.6)),.ext false (.s false 2 c.7.length (cK c.7)),.ext false (.s false 2 p.1.length (cRg p.1)),.ext false (.s false 2 p.2.length (cTa p.2)),.ext false (.s false 6 p.3.length (cLk p.3)),.ext false (.s false 1 p.4.length (cT p.4))]) else R (.v (.bool true)) []):=by kernel_rfl
theorem zSt(c:Cir)(p:Pln)(u:Int)(kl:List (List Int))(k M:Nat)(K:List It→St→Prop)(R:SV→List HO→Prop):W (xwp Tryz.prog X zBu [] 60 (qO Tryz.f67 [] [⟨[0,1,0,1,1],[13,12,11,3,1],[]⟩]) [] (.at [0,0,1,0,1,1]::.rnd [0,0,1,0,1,1] M::[.blk 0,.at [1,1,1]]) (St.mk [(13,.v (qA (k:Int))),(12,.v (qA (↑p.2.length:Int))),(11,.x 0 []),(3,.m 1),(1,.p 2 0)] [.ext false (.s false 2 p.2.length (cTa p.2)),.mp false [IntKind.i64] kl Mc.unit,.cells [.v (qA c.1),.v (qA c.2),.v (qA c.3),.x 3 [],.x 4 [],.x 5 [],.x 6 [],.x 7 [],.x 0 [],.x 8 [],.x 9 [],.v (qA u)] 84,.ext false (.s false 7 c.4.length (cN c.4)),.ext false (.s false 1 c.5.length (cI c.5)),.ext false (.s false 2 c.6.length (cL c.6)),.ext false (.s false 2 c.7.length (cK c.7)),.ext false (.s false 2 p.1.length (cRg p.1)),.ext false (.s false 6 p.3.length (cLk p.3)),.ext false (.s false 1 p.4.length (cT p.4))]) K R)=W (bif decide ((↑k:Int)<(↑p.2.length:Int)) then(∀ M:Mem,(0:Int)≤(↑k:Int)∧(↑k:Int)<(↑p.2.length:Int))∧(∀ M:Mem,k<List.length p.2)∧(∀ M:Mem,0+2≤2)∧(∀ M:Mem,0≤0)∧bif jY kl [(gTa p.2 k).1] then R (.v (.bool false)) [] else bif decide ((gTa p.2 k).1<(0:Int)) then R (.v (.bool false)) [] else bif decide (c.1≤(gTa p.2 k).1) then R (.v (.bool false)) [] else K [.rnd [0,0,1,0,1,1] M,.blk 0,.at [1,1,1]] (St.mk [(13,.v (qA (IntKind.wrap .i64 ((↑k:Int)+(1:Int))))),(12,.v (qA (↑p.2.length:Int))),(11,.x 0 []),(3,.m 1),(1,.p 2 0)] [.ext false (.s false 2 p.2.length (cTa p.2)),.mp false [IntKind.i64] (zK kl [(gTa p.2 k).1]) Mc.unit,.cells [.v (qA c.1),.v (qA c.2),.v (qA c.3),.x 3 [],.x 4 [],.x 5 [],.x 6 [],.x 7 [],.x 0 [],.x 8 [],.x 9 [],.v (qA u)] 84,.ext false (.s false 7 c.4.length (cN c.4)),.ext false (.s false 1 c.5.length (cI c.5)),.ext false (.s false 2 c.6.length (cL c.6)),.ext false (.s false 2 c.7.length (cK c.7)),.ext false (.s false 2 p.1.length (cRg p.1)),.ext false (.s false 6 p.3.length (cLk p.3)),.ext false (.s false 1 p.4.length (cT p.4))]) else R (.v (.bool true)) []):=by kernel_rfl
theorem qUm(c:Cir)(hc:c.ok)(p:Pln)(hp:p.ok)(u rows:Int)(ps:List Pt)(hb:ps.length≤64)(Q:SV→List HO→Prop):∀(d k:Nat) (kl:List (List Int)),k+d=ps.length→Q (.v (.bool (qXr c p rows kl (ps.drop k)))) [] →
  FOk Tryz.prog Tryz.f71 Q (.rnd [0,0,1,0,1,1,1] (d+1)::[.blk 0,.at [1,1,1,1]]) ((St.mk [(23,SV.v (qA (k:Int))),(22,SV.v (qA (↑ps.length:Int))),(21,SV.x 0 []),(5,SV.m 1),(3,SV.p 2 0),(2,SV.p 3 0)] [HO.ext false (qB.s false 7 ps.length (cPt ps)),HO.mp true [IntKind.i64,IntKind.i64,IntKind.i64,IntKind.u64,IntKind.u64,IntKind.u64,IntKind.u64] kl Mc.unit,HO.cells [SV.v (qA rows),SV.x 0 []] 50,HO.cells [SV.v (qA c.1),SV.v (qA c.2),SV.v (qA c.3),SV.x 4 [],SV.x 5 [],SV.x 6 [],SV.x 7 [],SV.x 8 [],SV.x 9 [],SV.x 10 [],SV.x 11 [],SV.v (qA u)] 84,HO.ext false (qB.s false 7 (List.length c.4) (cN c.4)),HO.ext false (qB.s false 1 (List.length c.5) (cI c.5)),HO.ext false (qB.s false 2 (List.length c.6) (cL c.6)),HO.ext false (qB.s false 2 (List.length c.7) (cK c.7)),HO.ext false (qB.s false 2 (List.length p.1) (cRg p.1)),HO.ext false (qB.s false 2 (List.length p.2) (cTa p.2)),HO.ext false (qB.s false 6 (List.length p.3) (cLk p.3)),HO.ext false (qB.s false 1 (List.length p.4) (cT p.4))]))
 | 0,k,kl,hd,hq=>by
  refine FOk.rnd (qC hm 60 ((zTr c p u rows ps kl k 0 _ _).mpr ⟨?_⟩))
  rw[qD,if_neg (by omega)]
  rw[show k=ps.length by omega,List.drop_length] at hq
  exact hq
 | d+1,k,kl,hd,hq=>by
  have hk:k<ps.length:=by omega
  rw[qAk hk] at hq
  refine FOk.rnd (qC hm 60 ((zTr c p u rows ps kl k (d+1) _ _).mpr ⟨?_⟩))
  rw[qD,if_pos (by omega),qK _ (by omega)]
  repeat' (refine And.intro (fun _=>by omega) ?_)
  refine jO (Q:=fun v=>Q (.v (.bool v)) []) hq id (fun hq=>?_)
  refine jX c hc p hp (And.intro ⟨ps,rfl,IsC.refl _ _ _⟩ ?_)
  exact jO (Q:=fun v=>Q (.v (.bool v)) []) hq id (fun hq=>qUm c hc p hp u rows ps hb Q d (k+1) _ (by omega) hq)
theorem zXv:Tryz.f71.body.isSome=true:=by kernel_rfl
theorem zXa(c:Cir)(u rows:Int):Nat.ble ([.agg [.v (.int .i64 c.1),.v (.int .i64 c.2),.v (.int .i64 c.3),.x 0 [],.x 1 [],.x 2 [],.x 3 [],.x 4 [],.x 5 [],.x 6 [],.x 7 [],.v (.int .i64 u)],.agg [.v (.int .i64 rows),.x 8 []]]:List SV).length Tryz.f71.ntmps=true:=by kernel_rfl
theorem zLk(c:Cir)(hc:c.ok)(p:Pln)(hp:p.ok)(u rows:Int)(ps:List Pt)(Q:SV→List HO→Prop)(hq:Q (.v (.bool (qAm c p (rows,ps)))) []):qI Tryz.prog 71 [.agg [.v (.int .i64 c.1),.v (.int .i64 c.2),.v (.int .i64 c.3),.x 0 [],.x 1 [],.x 2 [],.x 3 [],.x 4 [],.x 5 [],.x 6 [],.x 7 [],.v (.int .i64 u)],.agg [.v (.int .i64 rows),.x 8 []]] [.ext false (.s false 7 c.4.length (cN c.4)),.ext false (.s false 1 c.5.length (cI c.5)),.ext false (.s false 2 c.6.length (cL c.6)),.ext false (.s false 2 c.7.length (cK c.7)),.ext false (.s false 2 p.1.length (cRg p.1)),.ext false (.s false 2 p.2.length (cTa p.2)),.ext false (.s false 6 p.3.length (cLk p.3)),.ext false (.s false 1 p.4.length (cT p.4)),.ext false (.s false 7 ps.length (cPt ps))] Q:=by
 refine qL Tryz.func71 zXv ?_ ?_
 ·exact zXa c u rows
 refine qC hm 60 ((zUb c p u rows ps _ _).mpr ⟨?_⟩)
 rw[qAm] at hq
 refine jO (Q:=fun v=>Q (.v (.bool v)) []) hq id (fun hq=>?_)
 rw[qD] at hq
 rw[qD]
 by_cases h:(64:Int)<(ps.length:Int)
 ·rw[if_pos h]
  rw[if_pos h] at hq
  exact hq
 ·rw[if_neg h]
  rw[if_neg h] at hq
  exact FOk.loop (ps.length+1) (by kernel_rfl) (qUm c hc p hp u rows ps (by omega) Q ps.length 0 [] (by omega) hq)
noncomputable def zMy:List SV→List HO→Option ((SV→List HO→Prop)→Prop)
 | [.agg [.v (.int .i64 fx),.v (.int .i64 ad),.v (.int .i64 ins),.x 0 [],.x 1 [],.x 2 [],.x 3 [],.x 4 [],.x 5 [],.x 6 [],.x 7 [],.v (.int .i64 u)],.agg [.v (.int .i64 rows),.x 8 []]],[.ext false (.s false 7 n0 c0),.ext false (.s false 1 n1 c1),.ext false (.s false 2 n2 c2),.ext false (.s false 2 n3 c3),.ext false (.s false 2 m0 d0),.ext false (.s false 2 m1 d1),.ext false (.s false 6 m2 d2),.ext false (.s false 1 m3 d3),.ext false (.s false 7 q cq)] =>
  some fun Q=>lSh fx ad ins n0 n1 n2 n3 m0 m1 m2 m3 c0 c1 c2 c3 d0 d1 d2 d3 fun c p=>∃ ps:List Pt,q=ps.length∧IsC q 7 cq (cPt ps)∧Q (.v (.bool (qAm c p (rows,ps)))) []
 | _,_=>none
theorem zIc(args:List SV)(h:List HO)(tr:(SV→List HO→Prop)→Prop)(Q:SV→List HO→Prop)(hc:zMy args h=some tr)(ht:tr Q):qI Tryz.prog 71 args h Q:=by
 unfold zMy at hc
 split at hc
 ·simp only[sI] at hc
  subst hc
  obtain⟨c,rfl,rfl,rfl,⟨rfl,e0⟩,⟨rfl,e1⟩,⟨rfl,e2⟩,⟨rfl,e3⟩,hk,ht2⟩:=ht.h.h
  obtain⟨p,⟨rfl,e4⟩,⟨rfl,e5⟩,⟨rfl,e6⟩,⟨rfl,e7⟩,hp,ps,rfl,e8,hq⟩:=ht2.h
  exact qI.ac (zLk c hk p hp _ _ ps Q hq) ⟨⟨rfl,rfl,rfl,rfl,e0⟩,⟨rfl,rfl,rfl,rfl,e1⟩,⟨rfl,rfl,rfl,rfl,e2⟩,⟨rfl,rfl,rfl,rfl,e3⟩,⟨rfl,rfl,rfl,rfl,e4⟩,⟨rfl,rfl,rfl,rfl,e5⟩,⟨rfl,rfl,rfl,rfl,e6⟩,⟨rfl,rfl,rfl,rfl,e7⟩,⟨rfl,rfl,rfl,rfl,e8⟩,trivial⟩
 ·cases hc
theorem qSu(c:Cir)(p:Pln)(u:Int)(hb:p.tb.length≤17592186043904)(Q:SV→List HO→Prop):∀(d k:Nat) (kl:List (List Int)),k+d=p.tb.length→Q (.v (.bool (qNp c.1 kl (p.tb.drop k)))) [] →
  FOk Tryz.prog Tryz.f67 Q (.rnd [0,0,1,0,1,1] (d+1)::[.blk 0,.at [1,1,1]]) ((St.mk [(13,SV.v (qA (k:Int))),(12,SV.v (qA (↑(List.length p.2):Int))),(11,SV.x 0 []),(3,SV.m 1),(1,SV.p 2 0)] [HO.ext false (qB.s false 2 (List.length p.2) (cTa p.2)),HO.mp false [IntKind.i64] kl Mc.unit,HO.cells [SV.v (qA c.1),SV.v (qA c.2),SV.v (qA c.3),SV.x 3 [],SV.x 4 [],SV.x 5 [],SV.x 6 [],SV.x 7 [],SV.x 0 [],SV.x 8 [],SV.x 9 [],SV.v (qA u)] 84,HO.ext false (qB.s false 7 (List.length c.4) (cN c.4)),HO.ext false (qB.s false 1 (List.length c.5) (cI c.5)),HO.ext false (qB.s false 2 (List.length c.6) (cL c.6)),HO.ext false (qB.s false 2 (List.length c.7) (cK c.7)),HO.ext false (qB.s false 2 (List.length p.1) (cRg p.1)),HO.ext false (qB.s false 6 (List.length p.3) (cLk p.3)),HO.ext false (qB.s false 1 (List.length p.4) (cT p.4))]))
 | 0,k,kl,hd,hq=>by
  refine FOk.rnd (qC hm 60 ((zSt c p u kl k 0 _ _).mpr ⟨?_⟩))
  rw[qD,if_neg (by omega)]
  rw[show k=p.tb.length by omega,List.drop_length] at hq
  exact hq
 | d+1,k,kl,hd,hq=>by
  have hk:k<p.tb.length:=by omega
  rw[qEd hk] at hq
  refine FOk.rnd (qC hm 60 ((zSt c p u kl k (d+1) _ _).mpr ⟨?_⟩))
  rw[qD,if_pos (by omega),qK _ (by omega)]
  repeat' (refine And.intro (fun _=>by omega) ?_)
  exact jO (Q:=fun v=>Q (.v (.bool v)) []) hq id (fun hq=>jO (Q:=fun v=>Q (.v (.bool v)) []) hq id (fun hq=>jO (Q:=fun v=>Q (.v (.bool v)) []) hq id (fun hq=>qSu c p u hb Q d (k+1) _ (by omega) hq)))
theorem zVf:Tryz.f67.body.isSome=true:=by kernel_rfl
theorem zXm(c:Cir)(u:Int):Nat.ble ([.agg [.v (.int .i64 c.1),.v (.int .i64 c.2),.v (.int .i64 c.3),.x 0 [],.x 1 [],.x 2 [],.x 3 [],.x 4 [],.x 5 [],.x 6 [],.x 7 [],.v (.int .i64 u)]]:List SV).length Tryz.f67.ntmps=true:=by kernel_rfl
theorem zKw(c:Cir)(hc:c.ok)(p:Pln)(hp:p.ok)(u:Int)(Q:SV→List HO→Prop)(hq:Q (.v (.bool (qNp c.1 [] p.tb))) []):qI Tryz.prog 67 [.agg [.v (.int .i64 c.1),.v (.int .i64 c.2),.v (.int .i64 c.3),.x 0 [],.x 1 [],.x 2 [],.x 3 [],.x 4 [],.x 5 [],.x 6 [],.x 7 [],.v (.int .i64 u)]] [.ext false (.s false 7 c.4.length (cN c.4)),.ext false (.s false 1 c.5.length (cI c.5)),.ext false (.s false 2 c.6.length (cL c.6)),.ext false (.s false 2 c.7.length (cK c.7)),.ext false (.s false 2 p.1.length (cRg p.1)),.ext false (.s false 2 p.2.length (cTa p.2)),.ext false (.s false 6 p.3.length (cLk p.3)),.ext false (.s false 1 p.4.length (cT p.4))] Q:=by
 refine qL Tryz.func67 zVf ?_ ?_
 ·exact zXm c u
 have h1:=hp.t.2
 refine qC hm 60 ((zPy c p u _ _).mpr ⟨?_⟩)
 exact FOk.loop (p.tb.length+1) (by kernel_rfl) (qSu c p u (by omega) Q p.tb.length 0 [] (by omega) hq)
noncomputable def zLb:List SV→List HO→Option ((SV→List HO→Prop)→Prop)
 | [.agg [.v (.int .i64 fx),.v (.int .i64 ad),.v (.int .i64 ins),.x 0 [],.x 1 [],.x 2 [],.x 3 [],.x 4 [],.x 5 [],.x 6 [],.x 7 [],.v (.int .i64 u)]],[.ext false (.s false 7 n0 c0),.ext false (.s false 1 n1 c1),.ext false (.s false 2 n2 c2),.ext false (.s false 2 n3 c3),.ext false (.s false 2 m0 d0),.ext false (.s false 2 m1 d1),.ext false (.s false 6 m2 d2),.ext false (.s false 1 m3 d3)] =>
  some fun Q=>lSh fx ad ins n0 n1 n2 n3 m0 m1 m2 m3 c0 c1 c2 c3 d0 d1 d2 d3 fun c p=>Q (.v (.bool (qNp c.1 [] p.tb))) []
 | _,_=>none
theorem zGe(args:List SV)(h:List HO)(tr:(SV→List HO→Prop)→Prop)(Q:SV→List HO→Prop)(hc:zLb args h=some tr)(ht:tr Q):qI Tryz.prog 67 args h Q:=by
 unfold zLb at hc
 split at hc
 ·simp only[sI] at hc
  subst hc
  obtain⟨c,rfl,rfl,rfl,⟨rfl,e0⟩,⟨rfl,e1⟩,⟨rfl,e2⟩,⟨rfl,e3⟩,hk,ht2⟩:=ht.h.h
  obtain⟨p,⟨rfl,e4⟩,⟨rfl,e5⟩,⟨rfl,e6⟩,⟨rfl,e7⟩,hp,hq⟩:=ht2.h
  exact qI.ac (zKw c hk p hp _ Q hq) ⟨⟨rfl,rfl,rfl,rfl,e0⟩,⟨rfl,rfl,rfl,rfl,e1⟩,⟨rfl,rfl,rfl,rfl,e2⟩,⟨rfl,rfl,rfl,rfl,e3⟩,⟨rfl,rfl,rfl,rfl,e4⟩,⟨rfl,rfl,rfl,rfl,e5⟩,⟨rfl,rfl,rfl,rfl,e6⟩,⟨rfl,rfl,rfl,rfl,e7⟩,trivial⟩
 ·cases hc
noncomputable def zRy:Con Tryz.prog:=(zBu.add 71 zMy zIc).add 67 zLb zGe
end Go.Proofs.YtlmjdcbhpffanaaGreat
/- Ends of links: plain. -/
namespace Go.Pl
open Go.Sx
def wF(c:Cir)(p:Pln)(u er ec eo:Int):Bool:=bif decide (ec<(0:Int)) then false else bif decide ((c.eqs.length:Int)≤ec) then false else bif decide (eo<(0:Int)) then false else bif decide (er<(-1:Int)) then false else bif decide ((p.rg.length:Int)≤er) then false else bif decide (er<(0:Int)) then decide (eo<u) else bif !((gK c.eqs ec.toNat).1==(4:Int)) then decide (eo<(gRg p.rg er.toNat).1) else false
theorem yD{Q:Bool→Prop}{b x y:Bool}{X Y:Prop}(h:Q (bif b then x else y))(hx:b=true→Q x→X)(hy:b=false→Q y→Y):bif b then X else Y:=by
 cases b
 ·exact hy rfl h
 ·exact hx rfl h
def lkB(c:Cir)(p:Pln)(u:Int)(x:(Int×Int×Int)×(Int×Int×Int)):Bool:=bif !wF c p u x.1.1 x.1.2.1 x.1.2.2 then true else !wF c p u x.2.1 x.2.2.1 x.2.2.2
def rgN(c:Cir)(p:Pln)(r:Int×List Pt):Bool:=!qAm c p r
theorem qVs{q:Int×List Pt→Bool}{l:List (Int×List Pt)}{k:Nat}(h:k<l.length):zB q k (l.drop k)=if q (gRg l k) then(k:Int) else zB q (k+1) (l.drop (k+1)):=by
 rw[qLs h,zB]
theorem qTl{q:(Int×Int×Int)×(Int×Int×Int)→Bool}{l:List ((Int×Int×Int)×(Int×Int×Int))}{k:Nat}(h:k<l.length):zB q k (l.drop k)=if q (gLk l k) then(k:Int) else zB q (k+1) (l.drop (k+1)):=by
 rw[zDo h,zB]
end Go.Pl
namespace Go.Proofs.YtlmjdcbhpffanaaGreat
open Go.Sx Go.Pl
set_option linter.unusedVariables false
set_option maxRecDepth 100000
end Go.Proofs.YtlmjdcbhpffanaaGreat
/- Is an end right? -/
namespace Go.Proofs.YtlmjdcbhpffanaaGreat
open Go.Sx Go.Pl
set_option linter.unusedVariables false
set_option maxRecDepth 100000
theorem zXp(c:Cir)(p:Pln)(u er ec eo:Int)(K:List It→St→Prop)(R:SV→List HO→Prop):W (xwp Tryz.prog X zRy [] 60 (qO Tryz.f74 [] []) [] [.at []] ⟨qQ 0 [.agg [.v (.int .i64 c.1),.v (.int .i64 c.2),.v (.int .i64 c.3),.x 0 [],.x 1 [],.x 2 [],.x 3 [],.x 4 [],.x 5 [],.x 6 [],.x 7 [],.v (.int .i64 u)],.agg [.v (.int .i64 er),.v (.int .i64 ec),.v (.int .i64 eo)]],[.ext false (.s false 7 c.4.length (cN c.4)),.ext false (.s false 1 c.5.length (cI c.5)),.ext false (.s false 2 c.6.length (cL c.6)),.ext false (.s false 2 c.7.length (cK c.7)),.ext false (.s false 2 p.1.length (cRg p.1)),.ext false (.s false 2 p.2.length (cTa p.2)),.ext false (.s false 6 p.3.length (cLk p.3)),.ext false (.s false 1 p.4.length (cT p.4))]⟩ K R)=W (bif decide (ec<(0:Int)) then R (.v (.bool false)) [] else bif decide ((↑c.7.length:Int)≤ec) then R (.v (.bool false)) [] else bif decide (eo<(0:Int)) then R (.v (.bool false)) [] else bif decide (er<(-1:Int)) then R (.v (.bool false)) [] else bif decide ((↑p.1.length:Int)≤er) then R (.v (.bool false)) [] else bif decide (er<(0:Int)) then R (.v (.bool (decide (eo<u)))) [] else(∀ M:Mem,(0:Int)≤ec∧ec<(↑c.7.length:Int))∧(∀ M:Mem,Int.toNat ec<List.length c.7)∧(∀ M:Mem,Int.toNat ec<List.length c.7)∧bif !(gK c.7 (Int.toNat ec)).1==(4:Int) then(∀ M:Mem,(0:Int)≤er∧er<(↑p.1.length:Int))∧(∀ M:Mem,Int.toNat er<List.length p.1)∧(∀ M:Mem,Int.toNat er<List.length p.1)∧R (.v (.bool (decide (eo<(gRg p.1 (Int.toNat er)).1)))) [] else R (.v (.bool false)) []):=by kernel_rfl
theorem zUd:Tryz.f74.body.isSome=true:=by kernel_rfl
theorem zYv(c:Cir)(u er ec eo:Int):Nat.ble ([.agg [.v (.int .i64 c.1),.v (.int .i64 c.2),.v (.int .i64 c.3),.x 0 [],.x 1 [],.x 2 [],.x 3 [],.x 4 [],.x 5 [],.x 6 [],.x 7 [],.v (.int .i64 u)],.agg [.v (.int .i64 er),.v (.int .i64 ec),.v (.int .i64 eo)]]:List SV).length Tryz.f74.ntmps=true:=by kernel_rfl
theorem zMr(c:Cir)(p:Pln)(u er ec eo:Int)(Q:SV→List HO→Prop)(hq:Q (.v (.bool (wF c p u er ec eo))) []):qI Tryz.prog 74 [.agg [.v (.int .i64 c.1),.v (.int .i64 c.2),.v (.int .i64 c.3),.x 0 [],.x 1 [],.x 2 [],.x 3 [],.x 4 [],.x 5 [],.x 6 [],.x 7 [],.v (.int .i64 u)],.agg [.v (.int .i64 er),.v (.int .i64 ec),.v (.int .i64 eo)]] [.ext false (.s false 7 c.4.length (cN c.4)),.ext false (.s false 1 c.5.length (cI c.5)),.ext false (.s false 2 c.6.length (cL c.6)),.ext false (.s false 2 c.7.length (cK c.7)),.ext false (.s false 2 p.1.length (cRg p.1)),.ext false (.s false 2 p.2.length (cTa p.2)),.ext false (.s false 6 p.3.length (cLk p.3)),.ext false (.s false 1 p.4.length (cT p.4))] Q:=by
 refine qL Tryz.func74 zUd ?_ ?_
 ·exact zYv c u er ec eo
 refine qC hm 60 ((zXp c p u er ec eo _ _).mpr ⟨?_⟩)
 refine yD (Q:=fun v=>Q (.v (.bool v)) []) hq (fun _ h=>h) (fun e1 hq=>yD (Q:=fun v=>Q (.v (.bool v)) []) hq (fun _ h=>h) (fun e2 hq=>yD (Q:=fun v=>Q (.v (.bool v)) []) hq (fun _ h=>h) (fun _ hq=>yD (Q:=fun v=>Q (.v (.bool v)) []) hq (fun _ h=>h) (fun _ hq=>yD (Q:=fun v=>Q (.v (.bool v)) []) hq (fun _ h=>h) (fun e3 hq=>yD (Q:=fun v=>Q (.v (.bool v)) []) hq (fun _ h=>h) (fun e4 hq=>?_))))))
 have e1:=of_decide_eq_false e1
 have e2:=of_decide_eq_false e2
 have e3:=of_decide_eq_false e3
 have e4:=of_decide_eq_false e4
 refine aI (aI (And.intro (fun _=>by omega) ?_))
 exact yD (Q:=fun v=>Q (.v (.bool v)) []) hq (fun _ h=>aI (aI (And.intro (fun _=>by omega) h))) (fun _ h=>h)
noncomputable def zKy:List SV→List HO→Option ((SV→List HO→Prop)→Prop)
 | [.agg [.v (.int .i64 fx),.v (.int .i64 ad),.v (.int .i64 ins),.x 0 [],.x 1 [],.x 2 [],.x 3 [],.x 4 [],.x 5 [],.x 6 [],.x 7 [],.v (.int .i64 u)],.agg [.v (.int .i64 er),.v (.int .i64 ec),.v (.int .i64 eo)]],[.ext false (.s false 7 n0 c0),.ext false (.s false 1 n1 c1),.ext false (.s false 2 n2 c2),.ext false (.s false 2 n3 c3),.ext false (.s false 2 m0 d0),.ext false (.s false 2 m1 d1),.ext false (.s false 6 m2 d2),.ext false (.s false 1 m3 d3)] =>
  some fun Q=>lSh fx ad ins n0 n1 n2 n3 m0 m1 m2 m3 c0 c1 c2 c3 d0 d1 d2 d3 fun c p=>Q (.v (.bool (wF c p u er ec eo))) []
 | _,_=>none
theorem zHb(args:List SV)(h:List HO)(tr:(SV→List HO→Prop)→Prop)(Q:SV→List HO→Prop)(hc:zKy args h=some tr)(ht:tr Q):qI Tryz.prog 74 args h Q:=by
 unfold zKy at hc
 split at hc
 ·simp only[sI] at hc
  subst hc
  obtain⟨c,rfl,rfl,rfl,⟨rfl,e0⟩,⟨rfl,e1⟩,⟨rfl,e2⟩,⟨rfl,e3⟩,hk,ht2⟩:=ht.h.h
  obtain⟨p,⟨rfl,e4⟩,⟨rfl,e5⟩,⟨rfl,e6⟩,⟨rfl,e7⟩,hp,hq⟩:=ht2.h
  exact qI.ac (zMr c p _ _ _ _ Q hq) ⟨⟨rfl,rfl,rfl,rfl,e0⟩,⟨rfl,rfl,rfl,rfl,e1⟩,⟨rfl,rfl,rfl,rfl,e2⟩,⟨rfl,rfl,rfl,rfl,e3⟩,⟨rfl,rfl,rfl,rfl,e4⟩,⟨rfl,rfl,rfl,rfl,e5⟩,⟨rfl,rfl,rfl,rfl,e6⟩,⟨rfl,rfl,rfl,rfl,e7⟩,trivial⟩
 ·cases hc
noncomputable def zNe:Con Tryz.prog:=zRy.add 74 zKy zHb
end Go.Proofs.YtlmjdcbhpffanaaGreat
/- The first region, link, column that is wrong. -/
namespace Go.Proofs.YtlmjdcbhpffanaaGreat
open Go.Sx Go.Pl
set_option linter.unusedVariables false
set_option maxRecDepth 100000
theorem zYw(c:Cir)(p:Pln)(u:Int)(K:List It→St→Prop)(R:SV→List HO→Prop):W (xwp Tryz.prog X zNe [(109,[])] 60 (fxM 9 Tryz.f83 [] [⟨[0,1,0,1],[8,7,0,1],[]⟩]) [] [.at []] ⟨qQ 0 [.x 0 [],.fn (.func 109) [] [.p 1 0]],[.ext false (.s false 1 p.4.length (cT p.4)),.cells [.v (.int .i64 c.1),.v (.int .i64 c.2),.v (.int .i64 c.3),.x 2 [],.x 3 [],.x 4 [],.x 5 [],.x 6 [],.x 7 [],.x 8 [],.x 0 [],.v (.int .i64 u)] 84,.ext false (.s false 7 c.4.length (cN c.4)),.ext false (.s false 1 c.5.length (cI c.5)),.ext false (.s false 2 c.6.length (cL c.6)),.ext false (.s false 2 c.7.length (cK c.7)),.ext false (.s false 2 p.1.length (cRg p.1)),.ext false (.s false 2 p.2.length (cTa p.2)),.ext false (.s false 6 p.3.length (cLk p.3))]⟩ K R)=W (K [.at [0,1,0,1],.blk 0,.at [1,1]] (St.mk [(8,.v (qA 0)),(7,.v (qA (↑p.4.length:Int))),(0,.x 0 []),(1,SV.fn (Fn.func 109) [] [.p 1 0])] [.ext false (.s false 1 p.4.length (cT p.4)),.cells [.v (qA c.1),.v (qA c.2),.v (qA c.3),.x 2 [],.x 3 [],.x 4 [],.x 5 [],.x 6 [],.x 7 [],.x 8 [],.x 0 [],.v (qA u)] 84,.ext false (.s false 7 c.4.length (cN c.4)),.ext false (.s false 1 c.5.length (cI c.5)),.ext false (.s false 2 c.6.length (cL c.6)),.ext false (.s false 2 c.7.length (cK c.7)),.ext false (.s false 2 p.1.length (cRg p.1)),.ext false (.s false 2 p.2.length (cTa p.2)),.ext false (.s false 6 p.3.length (cLk p.3))])):=by kernel_rfl
theorem zTo(c:Cir)(p:Pln)(u:Int)(k M:Nat)(K:List It→St→Prop)(R:SV→List HO→Prop):W (xwp Tryz.prog X zNe [(109,[])] 60 (fxM 9 Tryz.f83 [] [⟨[0,1,0,1],[8,7,0,1],[]⟩]) [] (.at [0,0,1,0,1]::.rnd [0,0,1,0,1] M::[.blk 0,.at [1,1]]) ⟨[(8,.v (.int .i64 (k:Int))),(7,.v (.int .i64 (p.4.length:Int))),(0,.x 0 []),(1,.fn (.func 109) [] [.p 1 0])],[.ext false (.s false 1 p.4.length (cT p.4)),.cells [.v (.int .i64 c.1),.v (.int .i64 c.2),.v (.int .i64 c.3),.x 2 [],.x 3 [],.x 4 [],.x 5 [],.x 6 [],.x 7 [],.x 8 [],.x 0 [],.v (.int .i64 u)] 84,.ext false (.s false 7 c.4.length (cN c.4)),.ext false (.s false 1 c.5.length (cI c.5)),.ext false (.s false 2 c.6.length (cL c.6)),.ext false (.s false 2 c.7.length (cK c.7)),.ext false (.s false 2 p.1.length (cRg p.1)),.ext false (.s false 2 p.2.length (cTa p.2)),.ext false (.s false 6 p.3.length (cLk p.3))]⟩ K R)=W (bif decide ((↑k:Int)<(↑p.4.length:Int)) then(∀ M:Mem,(0:Int)≤(↑k:Int)∧(↑k:Int)<(↑p.4.length:Int))∧(∀ M:Mem,k<List.length p.4)∧(∀ M:Mem,k<List.length p.4)∧(∀ M:Mem,0<1)∧(∀ M:Mem,0<1)∧bif decide (u<(↑(List.length (gT p.4 k)):Int)) then R (.v (qA (↑k:Int))) [.ext false (.s false 1 p.4.length (cT p.4)),.cells [.v (qA c.1),.v (qA c.2),.v (qA c.3),.x 2 [],.x 3 [],.x 4 [],.x 5 [],.x 6 [],.x 7 [],.x 8 [],.x 0 [],.v (qA u)] 84,.ext false (.s false 7 c.4.length (cN c.4)),.ext false (.s false 1 c.5.length (cI c.5)),.ext false (.s false 2 c.6.length (cL c.6)),.ext false (.s false 2 c.7.length (cK c.7)),.ext false (.s false 2 p.1.length (cRg p.1)),.ext false (.s false 2 p.2.length (cTa p.2)),.ext false (.s false 6 p.3.length (cLk p.3))] else K [.rnd [0,0,1,0,1] M,.blk 0,.at [1,1]] (St.mk [(8,.v (qA (IntKind.wrap .i64 ((↑k:Int)+(1:Int))))),(7,.v (qA (↑p.4.length:Int))),(0,.x 0 []),(1,SV.fn (Fn.func 109) [] [.p 1 0])] [.ext false (.s false 1 p.4.length (cT p.4)),.cells [.v (qA c.1),.v (qA c.2),.v (qA c.3),.x 2 [],.x 3 [],.x 4 [],.x 5 [],.x 6 [],.x 7 [],.x 8 [],.x 0 [],.v (qA u)] 84,.ext false (.s false 7 c.4.length (cN c.4)),.ext false (.s false 1 c.5.length (cI c.5)),.ext false (.s false 2 c.6.length (cL c.6)),.ext false (.s false 2 c.7.length (cK c.7)),.ext false (.s false 2 p.1.length (cRg p.1)),.ext false (.s false 2 p.2.length (cTa p.2)),.ext false (.s false 6 p.3.length (cLk p.3))]) else R (.v (qA (-1))) [.ext false (.s false 1 p.4.length (cT p.4)),.cells [.v (qA c.1),.v (qA c.2),.v (qA c.3),.x 2 [],.x 3 [],.x 4 [],.x 5 [],.x 6 [],.x 7 [],.x 8 [],.x 0 [],.v (qA u)] 84,.ext false (.s false 7 c.4.length (cN c.4)),.ext false (.s false 1 c.5.length (cI c.5)),.ext false (.s false 2 c.6.length (cL c.6)),.ext false (.s false 2 c.7.length (cK c.7)),.ext false (.s false 2 p.1.length (cRg p.1)),.ext false (.s false 2 p.2.length (cTa p.2)),.ext false (.s false 6 p.3.length (cLk p.3))]):=by kernel_rfl
theorem qUx(c:Cir)(hc:c.ok)(p:Pln)(hp:p.ok)(u:Int)(Q:SV→List HO→Prop):∀(d k:Nat),k+d=p.4.length→Q (.v (.int .i64 (zB (qBe u) k (p.4.drop k)))) [.ext false (.s false 1 p.4.length (cT p.4)),.cells [.v (.int .i64 c.1),.v (.int .i64 c.2),.v (.int .i64 c.3),.x 2 [],.x 3 [],.x 4 [],.x 5 [],.x 6 [],.x 7 [],.x 8 [],.x 0 [],.v (.int .i64 u)] 84,.ext false (.s false 7 c.4.length (cN c.4)),.ext false (.s false 1 c.5.length (cI c.5)),.ext false (.s false 2 c.6.length (cL c.6)),.ext false (.s false 2 c.7.length (cK c.7)),.ext false (.s false 2 p.1.length (cRg p.1)),.ext false (.s false 2 p.2.length (cTa p.2)),.ext false (.s false 6 p.3.length (cLk p.3))] →
  zX Tryz.prog 9 Tryz.f83 Q (.rnd [0,0,1,0,1] (d+1)::[.blk 0,.at [1,1]]) ⟨[(8,.v (.int .i64 (k:Int))),(7,.v (.int .i64 (p.4.length:Int))),(0,.x 0 []),(1,.fn (.func 109) [] [.p 1 0])],[.ext false (.s false 1 p.4.length (cT p.4)),.cells [.v (.int .i64 c.1),.v (.int .i64 c.2),.v (.int .i64 c.3),.x 2 [],.x 3 [],.x 4 [],.x 5 [],.x 6 [],.x 7 [],.x 8 [],.x 0 [],.v (.int .i64 u)] 84,.ext false (.s false 7 c.4.length (cN c.4)),.ext false (.s false 1 c.5.length (cI c.5)),.ext false (.s false 2 c.6.length (cL c.6)),.ext false (.s false 2 c.7.length (cK c.7)),.ext false (.s false 2 p.1.length (cRg p.1)),.ext false (.s false 2 p.2.length (cTa p.2)),.ext false (.s false 6 p.3.length (cLk p.3))]⟩
 | 0,k,hd,hq=>by
  refine FOk.rnd (qT hm 60 ((zTo c p u k 0 _ _).mpr ⟨?_⟩))
  rw[qD,if_neg (by omega)]
  rw[show k=p.4.length by omega,List.drop_length] at hq
  exact hq
 | d+1,k,hd,hq=>by
  have hk:k<p.4.length:=by omega
  have hb1:=hp.r.2
  have hb2:=hp.l.2
  have hb3:=hp.i.2
  rw[qLe hk] at hq
  refine FOk.rnd (qT hm 60 ((zTo c p u k (d+1) _ _).mpr ⟨?_⟩))
  rw[qD,if_pos (by omega),qK _ (by omega)]
  repeat' (refine And.intro (fun _=>by omega) ?_)
  refine qJ (fun h=>?_) (fun h=>?_)
  ·rw[show qBe u (gT p.4 k)=true from h] at hq; exact hq
  ·rw[show qBe u (gT p.4 k)=false from h] at hq; exact qUx c hc p hp u Q d (k+1) (by omega) hq
theorem zWv:Tryz.f83.body.isSome=true:=by kernel_rfl
theorem zUn:Nat.ble [SV.x 0 [],.fn (.func 109) [] [.p 1 0]].length Tryz.f83.ntmps=true:=by kernel_rfl
theorem zNt(c:Cir)(hc:c.ok)(p:Pln)(hp:p.ok)(u:Int)(Q:SV→List HO→Prop)(hq:Q (.v (.int .i64 (zB (qBe u) 0 p.4))) [.ext false (.s false 1 p.4.length (cT p.4)),.cells [.v (.int .i64 c.1),.v (.int .i64 c.2),.v (.int .i64 c.3),.x 2 [],.x 3 [],.x 4 [],.x 5 [],.x 6 [],.x 7 [],.x 8 [],.x 0 [],.v (.int .i64 u)] 84,.ext false (.s false 7 c.4.length (cN c.4)),.ext false (.s false 1 c.5.length (cI c.5)),.ext false (.s false 2 c.6.length (cL c.6)),.ext false (.s false 2 c.7.length (cK c.7)),.ext false (.s false 2 p.1.length (cRg p.1)),.ext false (.s false 2 p.2.length (cTa p.2)),.ext false (.s false 6 p.3.length (cLk p.3))]):zS Tryz.prog 9 83 [.x 0 [],.fn (.func 109) [] [.p 1 0]] [.ext false (.s false 1 p.4.length (cT p.4)),.cells [.v (.int .i64 c.1),.v (.int .i64 c.2),.v (.int .i64 c.3),.x 2 [],.x 3 [],.x 4 [],.x 5 [],.x 6 [],.x 7 [],.x 8 [],.x 0 [],.v (.int .i64 u)] 84,.ext false (.s false 7 c.4.length (cN c.4)),.ext false (.s false 1 c.5.length (cI c.5)),.ext false (.s false 2 c.6.length (cL c.6)),.ext false (.s false 2 c.7.length (cK c.7)),.ext false (.s false 2 p.1.length (cRg p.1)),.ext false (.s false 2 p.2.length (cTa p.2)),.ext false (.s false 6 p.3.length (cLk p.3))] Q:=by
 refine qL Tryz.func83 zWv ?_ ?_
 ·exact zUn
 refine qT hm 60 ((zYw c p u _ _).mpr ⟨?_⟩)
 exact FOk.loop (p.4.length+1) (by kernel_rfl) (qUx c hc p hp u Q p.4.length 0 (by omega) hq)
noncomputable def zLt:List SV→List HO→Option ((SV→List HO→Prop)→Prop)
 | [.x 0 [],.fn (.func 109) [] [.p 1 0]],[.ext false (.s false 1 m3 d3),.cells [.v (.int .i64 fx),.v (.int .i64 ad),.v (.int .i64 ins),.x 2 [],.x 3 [],.x 4 [],.x 5 [],.x 6 [],.x 7 [],.x 8 [],.x 0 [],.v (.int .i64 u)] 84,.ext false (.s false 7 n0 c0),.ext false (.s false 1 n1 c1),.ext false (.s false 2 n2 c2),.ext false (.s false 2 n3 c3),.ext false (.s false 2 m0 d0),.ext false (.s false 2 m1 d1),.ext false (.s false 6 m2 d2)]=>some fun Q=>lSh fx ad ins n0 n1 n2 n3 m0 m1 m2 m3 c0 c1 c2 c3 d0 d1 d2 d3 fun c p=>Q (.v (.int .i64 (zB (qBe u) 0 p.4))) [.ext false (.s false 1 p.4.length (cT p.4)),.cells [.v (.int .i64 c.1),.v (.int .i64 c.2),.v (.int .i64 c.3),.x 2 [],.x 3 [],.x 4 [],.x 5 [],.x 6 [],.x 7 [],.x 8 [],.x 0 [],.v (.int .i64 u)] 84,.ext false (.s false 7 c.4.length (cN c.4)),.ext false (.s false 1 c.5.length (cI c.5)),.ext false (.s false 2 c.6.length (cL c.6)),.ext false (.s false 2 c.7.length (cK c.7)),.ext false (.s false 2 p.1.length (cRg p.1)),.ext false (.s false 2 p.2.length (cTa p.2)),.ext false (.s false 6 p.3.length (cLk p.3))]
 | _,_=>none
theorem zGz(args:List SV)(h:List HO)(tr:(SV→List HO→Prop)→Prop)(Q:SV→List HO→Prop)(hc:zLt args h=some tr)(ht:tr Q):zS Tryz.prog h.length 83 args h Q:=by
 unfold zLt at hc
 split at hc
 ·simp only[sI] at hc
  subst hc
  obtain⟨c,rfl,rfl,rfl,⟨rfl,e0⟩,⟨rfl,e1⟩,⟨rfl,e2⟩,⟨rfl,e3⟩,hk,ht2⟩:=ht.h.h
  obtain⟨p,⟨rfl,e4⟩,⟨rfl,e5⟩,⟨rfl,e6⟩,⟨rfl,e7⟩,hp,hq⟩:=ht2.h
  exact qI.ac (zNt c hk p hp _ Q hq) ⟨⟨rfl,rfl,rfl,rfl,e7⟩,HE.refl _,⟨rfl,rfl,rfl,rfl,e0⟩,⟨rfl,rfl,rfl,rfl,e1⟩,⟨rfl,rfl,rfl,rfl,e2⟩,⟨rfl,rfl,rfl,rfl,e3⟩,⟨rfl,rfl,rfl,rfl,e4⟩,⟨rfl,rfl,rfl,rfl,e5⟩,⟨rfl,rfl,rfl,rfl,e6⟩,trivial⟩
 ·cases hc
noncomputable def zTk:Con Tryz.prog:=zNe.addW 83 zLt zGz
noncomputable def qYm:Con Tryz.prog:=(zTk.setW 70).setW 73
end Go.Proofs.YtlmjdcbhpffanaaGreat
/- The first that is wrong. -/
namespace Go.Proofs.YtlmjdcbhpffanaaGreat
open Go.Sx Go.Pl
set_option linter.unusedVariables false
set_option maxRecDepth 100000
theorem zVa(c:Cir)(p:Pln)(u:Int)(K:List It→St→Prop)(R:SV→List HO→Prop):W (xwp Tryz.prog X qYm [(70,[])] 60 (fxM 9 Tryz.f110 [] [⟨[0,1,0,1],[8,7,0,1],[]⟩]) [] [.at []] ⟨qQ 0 [.x 0 [],.fn (.func 70) [] [.p 1 0]],[.ext false (.s false 2 p.1.length (cRg p.1)),.cells [.v (.int .i64 c.1),.v (.int .i64 c.2),.v (.int .i64 c.3),.x 2 [],.x 3 [],.x 4 [],.x 5 [],.x 0 [],.x 6 [],.x 7 [],.x 8 [],.v (.int .i64 u)] 84,.ext false (.s false 7 c.4.length (cN c.4)),.ext false (.s false 1 c.5.length (cI c.5)),.ext false (.s false 2 c.6.length (cL c.6)),.ext false (.s false 2 c.7.length (cK c.7)),.ext false (.s false 2 p.2.length (cTa p.2)),.ext false (.s false 6 p.3.length (cLk p.3)),.ext false (.s false 1 p.4.length (cT p.4))]⟩ K R)=W (K [.at [0,1,0,1],.blk 0,.at [1,1]] (St.mk [(8,.v (qA 0)),(7,.v (qA (↑p.1.length:Int))),(0,.x 0 []),(1,SV.fn (Fn.func 70) [] [.p 1 0])] [.ext false (.s false 2 p.1.length (cRg p.1)),.cells [.v (qA c.1),.v (qA c.2),.v (qA c.3),.x 2 [],.x 3 [],.x 4 [],.x 5 [],.x 0 [],.x 6 [],.x 7 [],.x 8 [],.v (qA u)] 84,.ext false (.s false 7 c.4.length (cN c.4)),.ext false (.s false 1 c.5.length (cI c.5)),.ext false (.s false 2 c.6.length (cL c.6)),.ext false (.s false 2 c.7.length (cK c.7)),.ext false (.s false 2 p.2.length (cTa p.2)),.ext false (.s false 6 p.3.length (cLk p.3)),.ext false (.s false 1 p.4.length (cT p.4))])):=by kernel_rfl
theorem zQd(c:Cir)(p:Pln)(u:Int)(k M:Nat)(K:List It→St→Prop)(R:SV→List HO→Prop):W (xwp Tryz.prog X qYm [(70,[])] 60 (fxM 9 Tryz.f110 [] [⟨[0,1,0,1],[8,7,0,1],[]⟩]) [] (.at [0,0,1,0,1]::.rnd [0,0,1,0,1] M::[.blk 0,.at [1,1]]) ⟨[(8,.v (.int .i64 (k:Int))),(7,.v (.int .i64 (p.1.length:Int))),(0,.x 0 []),(1,.fn (.func 70) [] [.p 1 0])],[.ext false (.s false 2 p.1.length (cRg p.1)),.cells [.v (.int .i64 c.1),.v (.int .i64 c.2),.v (.int .i64 c.3),.x 2 [],.x 3 [],.x 4 [],.x 5 [],.x 0 [],.x 6 [],.x 7 [],.x 8 [],.v (.int .i64 u)] 84,.ext false (.s false 7 c.4.length (cN c.4)),.ext false (.s false 1 c.5.length (cI c.5)),.ext false (.s false 2 c.6.length (cL c.6)),.ext false (.s false 2 c.7.length (cK c.7)),.ext false (.s false 2 p.2.length (cTa p.2)),.ext false (.s false 6 p.3.length (cLk p.3)),.ext false (.s false 1 p.4.length (cT p.4))]⟩ K R)=W (bif decide ((↑k:Int)<(↑p.1.length:Int)) then(∀ M:Mem,(0:Int)≤(↑k:Int)∧(↑k:Int)<(↑p.1.length:Int))∧(∀ M:Mem,k<List.length p.1)∧(∀ M:Mem,k<List.length p.1)∧lSh c.1 c.2 c.3 c.4.length c.5.length c.6.length c.7.length p.1.length p.2.length p.3.length p.4.length (cN c.4) (cI c.5) (cL c.6) (cK c.7) (cRg p.1) (cTa p.2) (cLk p.3) (cT p.4) fun(c_1:Cir) (p_1:Pln)=>∃(ps:List Pt),List.length (gRg p.1 k).2=List.length ps∧IsC (List.length (gRg p.1 k).2) 7 (cPt (gRg p.1 k).2) (cPt ps)∧bif !qAm c_1 p_1 ((gRg p.1 k).1,ps) then R (.v (qA (↑k:Int))) [.ext false (.s false 2 p.1.length (cRg p.1)),.cells [.v (qA c.1),.v (qA c.2),.v (qA c.3),.x 2 [],.x 3 [],.x 4 [],.x 5 [],.x 0 [],.x 6 [],.x 7 [],.x 8 [],.v (qA u)] 84,.ext false (.s false 7 c.4.length (cN c.4)),.ext false (.s false 1 c.5.length (cI c.5)),.ext false (.s false 2 c.6.length (cL c.6)),.ext false (.s false 2 c.7.length (cK c.7)),.ext false (.s false 2 p.2.length (cTa p.2)),.ext false (.s false 6 p.3.length (cLk p.3)),.ext false (.s false 1 p.4.length (cT p.4))] else K [.rnd [0,0,1,0,1] M,.blk 0,.at [1,1]] (St.mk [(8,.v (qA (IntKind.wrap .i64 ((↑k:Int)+(1:Int))))),(7,.v (qA (↑p.1.length:Int))),(0,.x 0 []),(1,SV.fn (Fn.func 70) [] [.p 1 0])] [.ext false (.s false 2 p.1.length (cRg p.1)),.cells [.v (qA c.1),.v (qA c.2),.v (qA c.3),.x 2 [],.x 3 [],.x 4 [],.x 5 [],.x 0 [],.x 6 [],.x 7 [],.x 8 [],.v (qA u)] 84,.ext false (.s false 7 c.4.length (cN c.4)),.ext false (.s false 1 c.5.length (cI c.5)),.ext false (.s false 2 c.6.length (cL c.6)),.ext false (.s false 2 c.7.length (cK c.7)),.ext false (.s false 2 p.2.length (cTa p.2)),.ext false (.s false 6 p.3.length (cLk p.3)),.ext false (.s false 1 p.4.length (cT p.4))]) else R (.v (qA (-1))) [.ext false (.s false 2 p.1.length (cRg p.1)),.cells [.v (qA c.1),.v (qA c.2),.v (qA c.3),.x 2 [],.x 3 [],.x 4 [],.x 5 [],.x 0 [],.x 6 [],.x 7 [],.x 8 [],.v (qA u)] 84,.ext false (.s false 7 c.4.length (cN c.4)),.ext false (.s false 1 c.5.length (cI c.5)),.ext false (.s false 2 c.6.length (cL c.6)),.ext false (.s false 2 c.7.length (cK c.7)),.ext false (.s false 2 p.2.length (cTa p.2)),.ext false (.s false 6 p.3.length (cLk p.3)),.ext false (.s false 1 p.4.length (cT p.4))]):=by kernel_rfl
theorem qSx(c:Cir)(hc:c.ok)(p:Pln)(hp:p.ok)(u:Int)(Q:SV→List HO→Prop):∀(d k:Nat),k+d=p.1.length→Q (.v (.int .i64 (zB (rgN c p) k (p.1.drop k)))) [.ext false (.s false 2 p.1.length (cRg p.1)),.cells [.v (.int .i64 c.1),.v (.int .i64 c.2),.v (.int .i64 c.3),.x 2 [],.x 3 [],.x 4 [],.x 5 [],.x 0 [],.x 6 [],.x 7 [],.x 8 [],.v (.int .i64 u)] 84,.ext false (.s false 7 c.4.length (cN c.4)),.ext false (.s false 1 c.5.length (cI c.5)),.ext false (.s false 2 c.6.length (cL c.6)),.ext false (.s false 2 c.7.length (cK c.7)),.ext false (.s false 2 p.2.length (cTa p.2)),.ext false (.s false 6 p.3.length (cLk p.3)),.ext false (.s false 1 p.4.length (cT p.4))] →
  zX Tryz.prog 9 Tryz.f110 Q (.rnd [0,0,1,0,1] (d+1)::[.blk 0,.at [1,1]]) ⟨[(8,.v (.int .i64 (k:Int))),(7,.v (.int .i64 (p.1.length:Int))),(0,.x 0 []),(1,.fn (.func 70) [] [.p 1 0])],[.ext false (.s false 2 p.1.length (cRg p.1)),.cells [.v (.int .i64 c.1),.v (.int .i64 c.2),.v (.int .i64 c.3),.x 2 [],.x 3 [],.x 4 [],.x 5 [],.x 0 [],.x 6 [],.x 7 [],.x 8 [],.v (.int .i64 u)] 84,.ext false (.s false 7 c.4.length (cN c.4)),.ext false (.s false 1 c.5.length (cI c.5)),.ext false (.s false 2 c.6.length (cL c.6)),.ext false (.s false 2 c.7.length (cK c.7)),.ext false (.s false 2 p.2.length (cTa p.2)),.ext false (.s false 6 p.3.length (cLk p.3)),.ext false (.s false 1 p.4.length (cT p.4))]⟩
 | 0,k,hd,hq=>by
  refine FOk.rnd (qT hm 60 ((zQd c p u k 0 _ _).mpr ⟨?_⟩))
  rw[qD,if_neg (by omega)]
  rw[show k=p.1.length by omega,List.drop_length] at hq
  exact hq
 | d+1,k,hd,hq=>by
  have hk:k<p.1.length:=by omega
  have hb1:=hp.r.2
  have hb2:=hp.l.2
  have hb3:=hp.i.2
  rw[qVs hk] at hq
  refine FOk.rnd (qT hm 60 ((zQd c p u k (d+1) _ _).mpr ⟨?_⟩))
  rw[qD,if_pos (by omega),qK _ (by omega)]
  refine aI (aI (And.intro (fun _=>by omega) ?_))
  refine jX c hc p hp ⟨(gRg p.1 k).2,rfl,IsC.refl _ _ _,?_⟩
  refine qJ (fun h=>?_) (fun h=>?_)
  ·rw[show rgN c p (gRg p.1 k)=true from h] at hq; exact hq
  ·rw[show rgN c p (gRg p.1 k)=false from h] at hq; exact qSx c hc p hp u Q d (k+1) (by omega) hq
theorem zUp:Tryz.f110.body.isSome=true:=by kernel_rfl
theorem zUi:Nat.ble [SV.x 0 [],.fn (.func 70) [] [.p 1 0]].length Tryz.f110.ntmps=true:=by kernel_rfl
theorem zNp(c:Cir)(hc:c.ok)(p:Pln)(hp:p.ok)(u:Int)(Q:SV→List HO→Prop)(hq:Q (.v (.int .i64 (zB (rgN c p) 0 p.1))) [.ext false (.s false 2 p.1.length (cRg p.1)),.cells [.v (.int .i64 c.1),.v (.int .i64 c.2),.v (.int .i64 c.3),.x 2 [],.x 3 [],.x 4 [],.x 5 [],.x 0 [],.x 6 [],.x 7 [],.x 8 [],.v (.int .i64 u)] 84,.ext false (.s false 7 c.4.length (cN c.4)),.ext false (.s false 1 c.5.length (cI c.5)),.ext false (.s false 2 c.6.length (cL c.6)),.ext false (.s false 2 c.7.length (cK c.7)),.ext false (.s false 2 p.2.length (cTa p.2)),.ext false (.s false 6 p.3.length (cLk p.3)),.ext false (.s false 1 p.4.length (cT p.4))]):zS Tryz.prog 9 110 [.x 0 [],.fn (.func 70) [] [.p 1 0]] [.ext false (.s false 2 p.1.length (cRg p.1)),.cells [.v (.int .i64 c.1),.v (.int .i64 c.2),.v (.int .i64 c.3),.x 2 [],.x 3 [],.x 4 [],.x 5 [],.x 0 [],.x 6 [],.x 7 [],.x 8 [],.v (.int .i64 u)] 84,.ext false (.s false 7 c.4.length (cN c.4)),.ext false (.s false 1 c.5.length (cI c.5)),.ext false (.s false 2 c.6.length (cL c.6)),.ext false (.s false 2 c.7.length (cK c.7)),.ext false (.s false 2 p.2.length (cTa p.2)),.ext false (.s false 6 p.3.length (cLk p.3)),.ext false (.s false 1 p.4.length (cT p.4))] Q:=by
 refine qL Tryz.func110 zUp ?_ ?_
 ·exact zUi
 refine qT hm 60 ((zVa c p u _ _).mpr ⟨?_⟩)
 exact FOk.loop (p.1.length+1) (by kernel_rfl) (qSx c hc p hp u Q p.1.length 0 (by omega) hq)
noncomputable def zPm:List SV→List HO→Option ((SV→List HO→Prop)→Prop)
 | [.x 0 [],.fn (.func 70) [] [.p 1 0]],[.ext false (.s false 2 m0 d0),.cells [.v (.int .i64 fx),.v (.int .i64 ad),.v (.int .i64 ins),.x 2 [],.x 3 [],.x 4 [],.x 5 [],.x 0 [],.x 6 [],.x 7 [],.x 8 [],.v (.int .i64 u)] 84,.ext false (.s false 7 n0 c0),.ext false (.s false 1 n1 c1),.ext false (.s false 2 n2 c2),.ext false (.s false 2 n3 c3),.ext false (.s false 2 m1 d1),.ext false (.s false 6 m2 d2),.ext false (.s false 1 m3 d3)]=>some fun Q=>lSh fx ad ins n0 n1 n2 n3 m0 m1 m2 m3 c0 c1 c2 c3 d0 d1 d2 d3 fun c p=>Q (.v (.int .i64 (zB (rgN c p) 0 p.1))) [.ext false (.s false 2 p.1.length (cRg p.1)),.cells [.v (.int .i64 c.1),.v (.int .i64 c.2),.v (.int .i64 c.3),.x 2 [],.x 3 [],.x 4 [],.x 5 [],.x 0 [],.x 6 [],.x 7 [],.x 8 [],.v (.int .i64 u)] 84,.ext false (.s false 7 c.4.length (cN c.4)),.ext false (.s false 1 c.5.length (cI c.5)),.ext false (.s false 2 c.6.length (cL c.6)),.ext false (.s false 2 c.7.length (cK c.7)),.ext false (.s false 2 p.2.length (cTa p.2)),.ext false (.s false 6 p.3.length (cLk p.3)),.ext false (.s false 1 p.4.length (cT p.4))]
 | _,_=>none
theorem zHs(args:List SV)(h:List HO)(tr:(SV→List HO→Prop)→Prop)(Q:SV→List HO→Prop)(hc:zPm args h=some tr)(ht:tr Q):zS Tryz.prog h.length 110 args h Q:=by
 unfold zPm at hc
 split at hc
 ·simp only[sI] at hc
  subst hc
  obtain⟨c,rfl,rfl,rfl,⟨rfl,e0⟩,⟨rfl,e1⟩,⟨rfl,e2⟩,⟨rfl,e3⟩,hk,ht2⟩:=ht.h.h
  obtain⟨p,⟨rfl,e4⟩,⟨rfl,e5⟩,⟨rfl,e6⟩,⟨rfl,e7⟩,hp,hq⟩:=ht2.h
  exact qI.ac (zNp c hk p hp _ Q hq) ⟨⟨rfl,rfl,rfl,rfl,e4⟩,HE.refl _,⟨rfl,rfl,rfl,rfl,e0⟩,⟨rfl,rfl,rfl,rfl,e1⟩,⟨rfl,rfl,rfl,rfl,e2⟩,⟨rfl,rfl,rfl,rfl,e3⟩,⟨rfl,rfl,rfl,rfl,e5⟩,⟨rfl,rfl,rfl,rfl,e6⟩,⟨rfl,rfl,rfl,rfl,e7⟩,trivial⟩
 ·cases hc
noncomputable def zUv:Con Tryz.prog:=zTk.addW 110 zPm zHs
end Go.Proofs.YtlmjdcbhpffanaaGreat
/- The first that is wrong. -/
namespace Go.Proofs.YtlmjdcbhpffanaaGreat
open Go.Sx Go.Pl
set_option linter.unusedVariables false
set_option maxRecDepth 100000
theorem zUt(c:Cir)(p:Pln)(u:Int)(K:List It→St→Prop)(R:SV→List HO→Prop):W (xwp Tryz.prog X qYm [(73,[])] 60 (fxM 9 Tryz.f112 [] [⟨[0,1,0,1],[8,7,0,1],[]⟩]) [] [.at []] ⟨qQ 0 [.x 0 [],.fn (.func 73) [] [.p 1 0]],[.ext false (.s false 6 p.3.length (cLk p.3)),.cells [.v (.int .i64 c.1),.v (.int .i64 c.2),.v (.int .i64 c.3),.x 2 [],.x 3 [],.x 4 [],.x 5 [],.x 6 [],.x 7 [],.x 0 [],.x 8 [],.v (.int .i64 u)] 84,.ext false (.s false 7 c.4.length (cN c.4)),.ext false (.s false 1 c.5.length (cI c.5)),.ext false (.s false 2 c.6.length (cL c.6)),.ext false (.s false 2 c.7.length (cK c.7)),.ext false (.s false 2 p.1.length (cRg p.1)),.ext false (.s false 2 p.2.length (cTa p.2)),.ext false (.s false 1 p.4.length (cT p.4))]⟩ K R)=W (K [.at [0,1,0,1],.blk 0,.at [1,1]] (St.mk [(8,.v (qA 0)),(7,.v (qA (↑p.3.length:Int))),(0,.x 0 []),(1,SV.fn (Fn.func 73) [] [.p 1 0])] [.ext false (.s false 6 p.3.length (cLk p.3)),.cells [.v (qA c.1),.v (qA c.2),.v (qA c.3),.x 2 [],.x 3 [],.x 4 [],.x 5 [],.x 6 [],.x 7 [],.x 0 [],.x 8 [],.v (qA u)] 84,.ext false (.s false 7 c.4.length (cN c.4)),.ext false (.s false 1 c.5.length (cI c.5)),.ext false (.s false 2 c.6.length (cL c.6)),.ext false (.s false 2 c.7.length (cK c.7)),.ext false (.s false 2 p.1.length (cRg p.1)),.ext false (.s false 2 p.2.length (cTa p.2)),.ext false (.s false 1 p.4.length (cT p.4))])):=by kernel_rfl
theorem zRm(c:Cir)(p:Pln)(u:Int)(k M:Nat)(K:List It→St→Prop)(R:SV→List HO→Prop):W (xwp Tryz.prog X qYm [(73,[])] 60 (fxM 9 Tryz.f112 [] [⟨[0,1,0,1],[8,7,0,1],[]⟩]) [] (.at [0,0,1,0,1]::.rnd [0,0,1,0,1] M::[.blk 0,.at [1,1]]) ⟨[(8,.v (.int .i64 (k:Int))),(7,.v (.int .i64 (p.3.length:Int))),(0,.x 0 []),(1,.fn (.func 73) [] [.p 1 0])],[.ext false (.s false 6 p.3.length (cLk p.3)),.cells [.v (.int .i64 c.1),.v (.int .i64 c.2),.v (.int .i64 c.3),.x 2 [],.x 3 [],.x 4 [],.x 5 [],.x 6 [],.x 7 [],.x 0 [],.x 8 [],.v (.int .i64 u)] 84,.ext false (.s false 7 c.4.length (cN c.4)),.ext false (.s false 1 c.5.length (cI c.5)),.ext false (.s false 2 c.6.length (cL c.6)),.ext false (.s false 2 c.7.length (cK c.7)),.ext false (.s false 2 p.1.length (cRg p.1)),.ext false (.s false 2 p.2.length (cTa p.2)),.ext false (.s false 1 p.4.length (cT p.4))]⟩ K R)=W (bif decide ((↑k:Int)<(↑p.3.length:Int)) then(∀ M:Mem,(0:Int)≤(↑k:Int)∧(↑k:Int)<(↑p.3.length:Int))∧(∀ M:Mem,k<List.length p.3)∧lSh c.1 c.2 c.3 c.4.length c.5.length c.6.length c.7.length p.1.length p.2.length p.3.length p.4.length (cN c.4) (cI c.5) (cL c.6) (cK c.7) (cRg p.1) (cTa p.2) (cLk p.3) (cT p.4) fun(c_1:Cir) (p_1:Pln)=>bif !wF c_1 p_1 u (gLk p.3 k).1.1 (gLk p.3 k).1.2.1 (gLk p.3 k).1.2.2 then R (.v (qA (↑k:Int))) [.ext false (.s false 6 p.3.length (cLk p.3)),.cells [.v (qA c.1),.v (qA c.2),.v (qA c.3),.x 2 [],.x 3 [],.x 4 [],.x 5 [],.x 6 [],.x 7 [],.x 0 [],.x 8 [],.v (qA u)] 84,.ext false (.s false 7 c.4.length (cN c.4)),.ext false (.s false 1 c.5.length (cI c.5)),.ext false (.s false 2 c.6.length (cL c.6)),.ext false (.s false 2 c.7.length (cK c.7)),.ext false (.s false 2 p.1.length (cRg p.1)),.ext false (.s false 2 p.2.length (cTa p.2)),.ext false (.s false 1 p.4.length (cT p.4))] else lSh c.1 c.2 c.3 c.4.length c.5.length c.6.length c.7.length p.1.length p.2.length p.3.length p.4.length (cN c.4) (cI c.5) (cL c.6) (cK c.7) (cRg p.1) (cTa p.2) (cLk p.3) (cT p.4) fun(c_2:Cir) (p_2:Pln)=>bif !wF c_2 p_2 u (gLk p.3 k).2.1 (gLk p.3 k).2.2.1 (gLk p.3 k).2.2.2 then R (.v (qA (↑k:Int))) [.ext false (.s false 6 p.3.length (cLk p.3)),.cells [.v (qA c.1),.v (qA c.2),.v (qA c.3),.x 2 [],.x 3 [],.x 4 [],.x 5 [],.x 6 [],.x 7 [],.x 0 [],.x 8 [],.v (qA u)] 84,.ext false (.s false 7 c.4.length (cN c.4)),.ext false (.s false 1 c.5.length (cI c.5)),.ext false (.s false 2 c.6.length (cL c.6)),.ext false (.s false 2 c.7.length (cK c.7)),.ext false (.s false 2 p.1.length (cRg p.1)),.ext false (.s false 2 p.2.length (cTa p.2)),.ext false (.s false 1 p.4.length (cT p.4))] else K [.rnd [0,0,1,0,1] M,.blk 0,.at [1,1]] (St.mk [(8,.v (qA (IntKind.wrap .i64 ((↑k:Int)+(1:Int))))),(7,.v (qA (↑p.3.length:Int))),(0,.x 0 []),(1,SV.fn (Fn.func 73) [] [.p 1 0])] [.ext false (.s false 6 p.3.length (cLk p.3)),.cells [.v (qA c.1),.v (qA c.2),.v (qA c.3),.x 2 [],.x 3 [],.x 4 [],.x 5 [],.x 6 [],.x 7 [],.x 0 [],.x 8 [],.v (qA u)] 84,.ext false (.s false 7 c.4.length (cN c.4)),.ext false (.s false 1 c.5.length (cI c.5)),.ext false (.s false 2 c.6.length (cL c.6)),.ext false (.s false 2 c.7.length (cK c.7)),.ext false (.s false 2 p.1.length (cRg p.1)),.ext false (.s false 2 p.2.length (cTa p.2)),.ext false (.s false 1 p.4.length (cT p.4))]) else R (.v (qA (-1))) [.ext false (.s false 6 p.3.length (cLk p.3)),.cells [.v (qA c.1),.v (qA c.2),.v (qA c.3),.x 2 [],.x 3 [],.x 4 [],.x 5 [],.x 6 [],.x 7 [],.x 0 [],.x 8 [],.v (qA u)] 84,.ext false (.s false 7 c.4.length (cN c.4)),.ext false (.s false 1 c.5.length (cI c.5)),.ext false (.s false 2 c.6.length (cL c.6)),.ext false (.s false 2 c.7.length (cK c.7)),.ext false (.s false 2 p.1.length (cRg p.1)),.ext false (.s false 2 p.2.length (cTa p.2)),.ext false (.s false 1 p.4.length (cT p.4))]):=by kernel_rfl
theorem qUa(c:Cir)(hc:c.ok)(p:Pln)(hp:p.ok)(u:Int)(Q:SV→List HO→Prop):∀(d k:Nat),k+d=p.3.length→Q (.v (.int .i64 (zB (lkB c p u) k (p.3.drop k)))) [.ext false (.s false 6 p.3.length (cLk p.3)),.cells [.v (.int .i64 c.1),.v (.int .i64 c.2),.v (.int .i64 c.3),.x 2 [],.x 3 [],.x 4 [],.x 5 [],.x 6 [],.x 7 [],.x 0 [],.x 8 [],.v (.int .i64 u)] 84,.ext false (.s false 7 c.4.length (cN c.4)),.ext false (.s false 1 c.5.length (cI c.5)),.ext false (.s false 2 c.6.length (cL c.6)),.ext false (.s false 2 c.7.length (cK c.7)),.ext false (.s false 2 p.1.length (cRg p.1)),.ext false (.s false 2 p.2.length (cTa p.2)),.ext false (.s false 1 p.4.length (cT p.4))] →
  zX Tryz.prog 9 Tryz.f112 Q (.rnd [0,0,1,0,1] (d+1)::[.blk 0,.at [1,1]]) ⟨[(8,.v (.int .i64 (k:Int))),(7,.v (.int .i64 (p.3.length:Int))),(0,.x 0 []),(1,.fn (.func 73) [] [.p 1 0])],[.ext false (.s false 6 p.3.length (cLk p.3)),.cells [.v (.int .i64 c.1),.v (.int .i64 c.2),.v (.int .i64 c.3),.x 2 [],.x 3 [],.x 4 [],.x 5 [],.x 6 [],.x 7 [],.x 0 [],.x 8 [],.v (.int .i64 u)] 84,.ext false (.s false 7 c.4.length (cN c.4)),.ext false (.s false 1 c.5.length (cI c.5)),.ext false (.s false 2 c.6.length (cL c.6)),.ext false (.s false 2 c.7.length (cK c.7)),.ext false (.s false 2 p.1.length (cRg p.1)),.ext false (.s false 2 p.2.length (cTa p.2)),.ext false (.s false 1 p.4.length (cT p.4))]⟩
 | 0,k,hd,hq=>by
  refine FOk.rnd (qT hm 60 ((zRm c p u k 0 _ _).mpr ⟨?_⟩))
  rw[qD,if_neg (by omega)]
  rw[show k=p.3.length by omega,List.drop_length] at hq
  exact hq
 | d+1,k,hd,hq=>by
  have hk:k<p.3.length:=by omega
  have hb1:=hp.r.2
  have hb2:=hp.l.2
  have hb3:=hp.i.2
  rw[qTl hk] at hq
  refine FOk.rnd (qT hm 60 ((zRm c p u k (d+1) _ _).mpr ⟨?_⟩))
  rw[qD,if_pos (by omega),qK _ (by omega)]
  refine aI (And.intro (fun _=>by omega) ?_)
  refine jX c hc p hp (qJ (fun h=>?_) (fun h=>?_))
  ·rw[show lkB c p u (gLk p.3 k)=true by rw[lkB,h]; rfl] at hq; exact hq
  refine jX c hc p hp (qJ (fun h2=>?_) (fun h2=>?_))
  ·rw[show lkB c p u (gLk p.3 k)=true by rw[lkB,h]; exact h2] at hq; exact hq
  ·rw[show lkB c p u (gLk p.3 k)=false by rw[lkB,h]; exact h2] at hq; exact qUa c hc p hp u Q d (k+1) (by omega) hq
theorem zWd:Tryz.f112.body.isSome=true:=by kernel_rfl
theorem zUk:Nat.ble [SV.x 0 [],.fn (.func 73) [] [.p 1 0]].length Tryz.f112.ntmps=true:=by kernel_rfl
theorem zMi(c:Cir)(hc:c.ok)(p:Pln)(hp:p.ok)(u:Int)(Q:SV→List HO→Prop)(hq:Q (.v (.int .i64 (zB (lkB c p u) 0 p.3))) [.ext false (.s false 6 p.3.length (cLk p.3)),.cells [.v (.int .i64 c.1),.v (.int .i64 c.2),.v (.int .i64 c.3),.x 2 [],.x 3 [],.x 4 [],.x 5 [],.x 6 [],.x 7 [],.x 0 [],.x 8 [],.v (.int .i64 u)] 84,.ext false (.s false 7 c.4.length (cN c.4)),.ext false (.s false 1 c.5.length (cI c.5)),.ext false (.s false 2 c.6.length (cL c.6)),.ext false (.s false 2 c.7.length (cK c.7)),.ext false (.s false 2 p.1.length (cRg p.1)),.ext false (.s false 2 p.2.length (cTa p.2)),.ext false (.s false 1 p.4.length (cT p.4))]):zS Tryz.prog 9 112 [.x 0 [],.fn (.func 73) [] [.p 1 0]] [.ext false (.s false 6 p.3.length (cLk p.3)),.cells [.v (.int .i64 c.1),.v (.int .i64 c.2),.v (.int .i64 c.3),.x 2 [],.x 3 [],.x 4 [],.x 5 [],.x 6 [],.x 7 [],.x 0 [],.x 8 [],.v (.int .i64 u)] 84,.ext false (.s false 7 c.4.length (cN c.4)),.ext false (.s false 1 c.5.length (cI c.5)),.ext false (.s false 2 c.6.length (cL c.6)),.ext false (.s false 2 c.7.length (cK c.7)),.ext false (.s false 2 p.1.length (cRg p.1)),.ext false (.s false 2 p.2.length (cTa p.2)),.ext false (.s false 1 p.4.length (cT p.4))] Q:=by
 refine qL Tryz.func112 zWd ?_ ?_
 ·exact zUk
 refine qT hm 60 ((zUt c p u _ _).mpr ⟨?_⟩)
 exact FOk.loop (p.3.length+1) (by kernel_rfl) (qUa c hc p hp u Q p.3.length 0 (by omega) hq)
noncomputable def zKo:List SV→List HO→Option ((SV→List HO→Prop)→Prop)
 | [.x 0 [],.fn (.func 73) [] [.p 1 0]],[.ext false (.s false 6 m2 d2),.cells [.v (.int .i64 fx),.v (.int .i64 ad),.v (.int .i64 ins),.x 2 [],.x 3 [],.x 4 [],.x 5 [],.x 6 [],.x 7 [],.x 0 [],.x 8 [],.v (.int .i64 u)] 84,.ext false (.s false 7 n0 c0),.ext false (.s false 1 n1 c1),.ext false (.s false 2 n2 c2),.ext false (.s false 2 n3 c3),.ext false (.s false 2 m0 d0),.ext false (.s false 2 m1 d1),.ext false (.s false 1 m3 d3)]=>some fun Q=>lSh fx ad ins n0 n1 n2 n3 m0 m1 m2 m3 c0 c1 c2 c3 d0 d1 d2 d3 fun c p=>Q (.v (.int .i64 (zB (lkB c p u) 0 p.3))) [.ext false (.s false 6 p.3.length (cLk p.3)),.cells [.v (.int .i64 c.1),.v (.int .i64 c.2),.v (.int .i64 c.3),.x 2 [],.x 3 [],.x 4 [],.x 5 [],.x 6 [],.x 7 [],.x 0 [],.x 8 [],.v (.int .i64 u)] 84,.ext false (.s false 7 c.4.length (cN c.4)),.ext false (.s false 1 c.5.length (cI c.5)),.ext false (.s false 2 c.6.length (cL c.6)),.ext false (.s false 2 c.7.length (cK c.7)),.ext false (.s false 2 p.1.length (cRg p.1)),.ext false (.s false 2 p.2.length (cTa p.2)),.ext false (.s false 1 p.4.length (cT p.4))]
 | _,_=>none
theorem zGp(args:List SV)(h:List HO)(tr:(SV→List HO→Prop)→Prop)(Q:SV→List HO→Prop)(hc:zKo args h=some tr)(ht:tr Q):zS Tryz.prog h.length 112 args h Q:=by
 unfold zKo at hc
 split at hc
 ·simp only[sI] at hc
  subst hc
  obtain⟨c,rfl,rfl,rfl,⟨rfl,e0⟩,⟨rfl,e1⟩,⟨rfl,e2⟩,⟨rfl,e3⟩,hk,ht2⟩:=ht.h.h
  obtain⟨p,⟨rfl,e4⟩,⟨rfl,e5⟩,⟨rfl,e6⟩,⟨rfl,e7⟩,hp,hq⟩:=ht2.h
  exact qI.ac (zMi c hk p hp _ Q hq) ⟨⟨rfl,rfl,rfl,rfl,e6⟩,HE.refl _,⟨rfl,rfl,rfl,rfl,e0⟩,⟨rfl,rfl,rfl,rfl,e1⟩,⟨rfl,rfl,rfl,rfl,e2⟩,⟨rfl,rfl,rfl,rfl,e3⟩,⟨rfl,rfl,rfl,rfl,e4⟩,⟨rfl,rfl,rfl,rfl,e5⟩,⟨rfl,rfl,rfl,rfl,e7⟩,trivial⟩
 ·cases hc
noncomputable def zSb:Con Tryz.prog:=zUv.addW 112 zKo zGp
end Go.Proofs.YtlmjdcbhpffanaaGreat
/- Is a plan right: plain. -/
namespace Go.Pl
open Go.Sx
def wB(c:Cir)(p:Pln)(u:Int):Bool:=bif decide ((p.rg.length:Int)≤(64:Int)) then bif decide ((p.lk.length:Int)≤(256:Int)) then bif qNp c.1 [] p.tb then bif(p.is.length:Int)==c.3 then bif p.is.any (qBe u) then false else bif p.rg.any (rgN c p) then false else !p.lk.any (lkB c p u) else false else false else false else false
end Go.Pl
namespace Go.Proofs.YtlmjdcbhpffanaaGreat
open Go.Sx Go.Pl
set_option linter.unusedVariables false
set_option maxRecDepth 100000
noncomputable def zRd:Con Tryz.prog:=(((zSb.setW 68).setW 53).setW 69).setW 72
end Go.Proofs.YtlmjdcbhpffanaaGreat
/- Is a plan right? -/
namespace Go.Proofs.YtlmjdcbhpffanaaGreat
open Go.Sx Go.Pl
set_option linter.unusedVariables false
set_option maxRecDepth 100000
theorem zWh(c:Cir)(p:Pln)(u:Int)(K:List It→St→Prop)(R:SV→List HO→Prop):W (xwp Tryz.prog X zRd [(68,[]),(53,[]),(69,[]),(72,[])] 60 (qO Tryz.f38 [] []) [] [.at []] ⟨qQ 0 [.agg [.v (.int .i64 c.1),.v (.int .i64 c.2),.v (.int .i64 c.3),.x 0 [],.x 1 [],.x 2 [],.x 3 [],.x 4 [],.x 5 [],.x 6 [],.x 7 [],.v (.int .i64 u)]],[.ext false (.s false 7 c.4.length (cN c.4)),.ext false (.s false 1 c.5.length (cI c.5)),.ext false (.s false 2 c.6.length (cL c.6)),.ext false (.s false 2 c.7.length (cK c.7)),.ext false (.s false 2 p.1.length (cRg p.1)),.ext false (.s false 2 p.2.length (cTa p.2)),.ext false (.s false 6 p.3.length (cLk p.3)),.ext false (.s false 1 p.4.length (cT p.4))]⟩ K R)=W (bif decide ((↑p.1.length:Int)≤(64:Int)) then bif decide ((↑p.3.length:Int)≤(256:Int)) then lSh c.1 c.2 c.3 c.4.length c.5.length c.6.length c.7.length p.1.length p.2.length p.3.length p.4.length (cN c.4) (cI c.5) (cL c.6) (cK c.7) (cRg p.1) (cTa p.2) (cLk p.3) (cT p.4) fun(c_1:Cir) (p_1:Pln)=>bif qNp c_1.1 [] p_1.2 then bif(↑p.4.length:Int)==c.3 then lSh c.1 c.2 c.3 c.4.length c.5.length c.6.length c.7.length p.1.length p.2.length p.3.length p.4.length (cN c.4) (cI c.5) (cL c.6) (cK c.7) (cRg p.1) (cTa p.2) (cLk p.3) (cT p.4) fun(c_2:Cir) (p:Pln)=>bif !decide ((0:Int)≤zB (qBe u) 0 p.4) then lSh c.1 c.2 c.3 c_2.4.length c_2.5.length c_2.6.length c_2.7.length p.1.length p.2.length p.3.length p.4.length (cN c_2.4) (cI c_2.5) (cL c_2.6) (cK c_2.7) (cRg p.1) (cTa p.2) (cLk p.3) (cT p.4) fun(c:Cir) (p:Pln)=>bif !decide ((0:Int)≤zB (rgN c p) 0 p.1) then lSh c.1 c.2 c.3 c.4.length c.5.length c.6.length c.7.length p.1.length p.2.length p.3.length p.4.length (cN c.4) (cI c.5) (cL c.6) (cK c.7) (cRg p.1) (cTa p.2) (cLk p.3) (cT p.4) fun(c:Cir) (p:Pln)=>R (.v (.bool !decide ((0:Int)≤zB (lkB c p u) 0 p.3))) [] else R (.v (.bool false)) [] else R (.v (.bool false)) [] else R (.v (.bool false)) [] else R (.v (.bool false)) [] else R (.v (.bool false)) [] else R (.v (.bool false)) []):=by kernel_rfl
theorem zVr:Tryz.f38.body.isSome=true:=by kernel_rfl
theorem zWb(c:Cir)(u:Int):Nat.ble ([.agg [.v (.int .i64 c.1),.v (.int .i64 c.2),.v (.int .i64 c.3),.x 0 [],.x 1 [],.x 2 [],.x 3 [],.x 4 [],.x 5 [],.x 6 [],.x 7 [],.v (.int .i64 u)]]:List SV).length Tryz.f38.ntmps=true:=by kernel_rfl
theorem zLw(c:Cir)(hc:c.ok)(p:Pln)(hp:p.ok)(u:Int)(Q:SV→List HO→Prop)(hq:Q (.v (.bool (wB c p u))) []):qI Tryz.prog 38 [.agg [.v (.int .i64 c.1),.v (.int .i64 c.2),.v (.int .i64 c.3),.x 0 [],.x 1 [],.x 2 [],.x 3 [],.x 4 [],.x 5 [],.x 6 [],.x 7 [],.v (.int .i64 u)]] [.ext false (.s false 7 c.4.length (cN c.4)),.ext false (.s false 1 c.5.length (cI c.5)),.ext false (.s false 2 c.6.length (cL c.6)),.ext false (.s false 2 c.7.length (cK c.7)),.ext false (.s false 2 p.1.length (cRg p.1)),.ext false (.s false 2 p.2.length (cTa p.2)),.ext false (.s false 6 p.3.length (cLk p.3)),.ext false (.s false 1 p.4.length (cT p.4))] Q:=by
 refine qL Tryz.func38 zVr ?_ ?_
 ·exact zWb c u
 refine qC hm 60 ((zWh c p u _ _).mpr ⟨?_⟩)
 refine yD (Q:=fun v=>Q (.v (.bool v)) []) hq (fun _ hq=>yD (Q:=fun v=>Q (.v (.bool v)) []) hq (fun _ hq=>jX c hc p hp (yD (Q:=fun v=>Q (.v (.bool v)) []) hq (fun _ hq=>yD (Q:=fun v=>Q (.v (.bool v)) []) hq (fun _ hq=>jX c hc p hp ?_) (fun _ h=>h)) (fun _ h=>h))) (fun _ h=>h)) (fun _ h=>h)
 rw[jC,qV]
 refine yD (Q:=fun v=>Q (.v (.bool v)) []) hq (fun _ h=>h) (fun _ hq=>jX c hc p hp ?_)
 rw[jC,qV]
 refine yD (Q:=fun v=>Q (.v (.bool v)) []) hq (fun _ h=>h) (fun _ hq=>jX c hc p hp ?_)
 rw[jC]
 exact hq
noncomputable def zNb:List SV→List HO→Option ((SV→List HO→Prop)→Prop)
 | [.agg [.v (.int .i64 fx),.v (.int .i64 ad),.v (.int .i64 ins),.x 0 [],.x 1 [],.x 2 [],.x 3 [],.x 4 [],.x 5 [],.x 6 [],.x 7 [],.v (.int .i64 u)]],[.ext false (.s false 7 n0 c0),.ext false (.s false 1 n1 c1),.ext false (.s false 2 n2 c2),.ext false (.s false 2 n3 c3),.ext false (.s false 2 m0 d0),.ext false (.s false 2 m1 d1),.ext false (.s false 6 m2 d2),.ext false (.s false 1 m3 d3)] =>
  some fun Q=>lSh fx ad ins n0 n1 n2 n3 m0 m1 m2 m3 c0 c1 c2 c3 d0 d1 d2 d3 fun c p=>Q (.v (.bool (wB c p u))) []
 | _,_=>none
theorem zHx(args:List SV)(h:List HO)(tr:(SV→List HO→Prop)→Prop)(Q:SV→List HO→Prop)(hc:zNb args h=some tr)(ht:tr Q):qI Tryz.prog 38 args h Q:=by
 unfold zNb at hc
 split at hc
 ·simp only[sI] at hc
  subst hc
  obtain⟨c,rfl,rfl,rfl,⟨rfl,e0⟩,⟨rfl,e1⟩,⟨rfl,e2⟩,⟨rfl,e3⟩,hk,ht2⟩:=ht.h.h
  obtain⟨p,⟨rfl,e4⟩,⟨rfl,e5⟩,⟨rfl,e6⟩,⟨rfl,e7⟩,hp,hq⟩:=ht2.h
  exact qI.ac (zLw c hk p hp _ Q hq) ⟨⟨rfl,rfl,rfl,rfl,e0⟩,⟨rfl,rfl,rfl,rfl,e1⟩,⟨rfl,rfl,rfl,rfl,e2⟩,⟨rfl,rfl,rfl,rfl,e3⟩,⟨rfl,rfl,rfl,rfl,e4⟩,⟨rfl,rfl,rfl,rfl,e5⟩,⟨rfl,rfl,rfl,rfl,e6⟩,⟨rfl,rfl,rfl,rfl,e7⟩,trivial⟩
 ·cases hc
noncomputable def zRp:Con Tryz.prog:=zSb.add 38 zNb zHx
end Go.Proofs.YtlmjdcbhpffanaaGreat
/- Check of a plan. -/
namespace Go.Pl
open Go.Sx
def yT(c:Cir)(k:Int)(p:Pln):Int:=if wM c≠0 then wM c else if k<3 then 60 else if 5<k then 60 else if wB c p (usN k) then 0 else 140
theorem qIi{c:Cir}{k:Int}{p:Pln}(h:yT c k p=0):wM c=0∧3≤k∧k≤5∧wB c p (usN k)=true:=by
 rw[yT] at h
 by_cases h0:wM c=0
 ·rw[if_neg (fun hh=>hh h0)] at h
  by_cases h1:k<3
  ·rw[if_pos h1] at h; cases h
  rw[if_neg h1] at h
  by_cases h2:5<k
  ·rw[if_pos h2] at h; cases h
  rw[if_neg h2] at h
  cases h3:wB c p (usN k) with
  | false=>rw[h3] at h; cases h
  | true=>exact⟨h0,by omega,by omega,rfl⟩
 ·rw[if_pos h0] at h; exact absurd h h0
end Go.Pl
namespace Go.Proofs.YtlmjdcbhpffanaaGreat
open Go.Sx Go.Pl
set_option linter.unusedVariables false
set_option maxRecDepth 100000
theorem zUo(c:Cir)(p:Pln)(k:Int)(K:List It→St→Prop)(R:SV→List HO→Prop):W (xwp Tryz.prog X zRp [(36,[])] 60 (qO Tryz.f10 [] []) [] [.at []] ⟨qQ 0 [.agg [.v (.int .i64 c.fx),.v (.int .i64 c.ad),.v (.int .i64 c.ins),.x 0 [],.x 1 [],.x 2 [],.x 3 []],.v (.int .i64 k),.agg [.x 4 [],.x 5 [],.x 6 [],.x 7 []]],[.ext false (.s false 7 c.4.length (cN c.4)),.ext false (.s false 1 c.5.length (cI c.5)),.ext false (.s false 2 c.6.length (cL c.6)),.ext false (.s false 2 c.7.length (cK c.7)),.ext false (.s false 2 p.1.length (cRg p.1)),.ext false (.s false 2 p.2.length (cTa p.2)),.ext false (.s false 6 p.3.length (cLk p.3)),.ext false (.s false 1 p.4.length (cT p.4))]⟩ K R)=W (lC c.1 c.2 c.3 c.4.length c.5.length c.6.length c.7.length (cN c.4) (cI c.5) (cL c.6) (cK c.7) fun(c_1:Cir)=>bif !wM c_1==(0:Int) then R (.v (qA (wM c_1))) [] else bif decide (k<(3:Int)) then R (.v (qA 60)) [] else bif decide ((5:Int)<k) then R (.v (qA 60)) [] else lSh c.1 c.2 c.3 c.4.length c.5.length c.6.length c.7.length p.1.length p.2.length p.3.length p.4.length (cN c.4) (cI c.5) (cL c.6) (cK c.7) (cRg p.1) (cTa p.2) (cLk p.3) (cT p.4) fun(c:Cir) (p:Pln)=>bif !wB c p (usN k) then R (.v (qA 140)) [] else R (.v (qA 0)) []):=by kernel_rfl
theorem zXx:Tryz.f10.body.isSome=true:=by kernel_rfl
theorem zYi(c:Cir)(k:Int):Nat.ble ([.agg [.v (.int .i64 c.fx),.v (.int .i64 c.ad),.v (.int .i64 c.ins),.x 0 [],.x 1 [],.x 2 [],.x 3 []],.v (.int .i64 k),.agg [.x 4 [],.x 5 [],.x 6 [],.x 7 []]]:List SV).length Tryz.f10.ntmps=true:=by kernel_rfl
theorem zKb(c:Cir)(hc:c.ok)(p:Pln)(hp:p.ok)(k:Int)(Q:SV→List HO→Prop)(hq:Q (.v (.int .i64 (yT c k p))) []):qI Tryz.prog 10 [.agg [.v (.int .i64 c.fx),.v (.int .i64 c.ad),.v (.int .i64 c.ins),.x 0 [],.x 1 [],.x 2 [],.x 3 []],.v (.int .i64 k),.agg [.x 4 [],.x 5 [],.x 6 [],.x 7 []]] [.ext false (.s false 7 c.4.length (cN c.4)),.ext false (.s false 1 c.5.length (cI c.5)),.ext false (.s false 2 c.6.length (cL c.6)),.ext false (.s false 2 c.7.length (cK c.7)),.ext false (.s false 2 p.1.length (cRg p.1)),.ext false (.s false 2 p.2.length (cTa p.2)),.ext false (.s false 6 p.3.length (cLk p.3)),.ext false (.s false 1 p.4.length (cT p.4))] Q:=by
 refine qL Tryz.func10 zXx ?_ ?_
 ·exact zYi c k
 refine qC hm 60 ((zUo c p k _ _).mpr ⟨?_⟩)
 rw[yT] at hq
 refine qBt c hc ?_
 rw[qV,zC]
 refine qG (fun h0=>?_) (fun h0=>by rw[if_pos h0] at hq; exact hq)
 rw[if_neg (fun h=>h h0)] at hq
 rw[qD,qD]
 refine qG (fun h1=>by rw[if_pos h1] at hq; exact hq) (fun h1=>qG (fun h2=>by rw[if_neg h1,if_pos h2] at hq; exact hq) (fun h2=>?_))
 rw[if_neg h1,if_neg h2] at hq
 refine jX c hc p hp ?_
 rw[qV]
 refine qJ (fun h=>?_) (fun h=>?_)
 ·rw[h] at hq; exact hq
 ·rw[h] at hq; exact hq
noncomputable def zKh:List SV→List HO→Option ((SV→List HO→Prop)→Prop)
 | [.agg [.v (.int .i64 fx),.v (.int .i64 ad),.v (.int .i64 ins),.x 0 [],.x 1 [],.x 2 [],.x 3 []],.v (.int .i64 k),.agg [.x 4 [],.x 5 [],.x 6 [],.x 7 []]],[.ext false (.s false 7 n0 c0),.ext false (.s false 1 n1 c1),.ext false (.s false 2 n2 c2),.ext false (.s false 2 n3 c3),.ext false (.s false 2 m0 d0),.ext false (.s false 2 m1 d1),.ext false (.s false 6 m2 d2),.ext false (.s false 1 m3 d3)] =>
  some fun Q=>lSh fx ad ins n0 n1 n2 n3 m0 m1 m2 m3 c0 c1 c2 c3 d0 d1 d2 d3 fun c p=>Q (.v (.int .i64 (yT c k p))) []
 | _,_=>none
theorem zHm(args:List SV)(h:List HO)(tr:(SV→List HO→Prop)→Prop)(Q:SV→List HO→Prop)(hc:zKh args h=some tr)(ht:tr Q):qI Tryz.prog 10 args h Q:=by
 unfold zKh at hc
 split at hc
 ·simp only[sI] at hc
  subst hc
  obtain⟨c,rfl,rfl,rfl,⟨rfl,e0⟩,⟨rfl,e1⟩,⟨rfl,e2⟩,⟨rfl,e3⟩,hk,ht2⟩:=ht.h.h
  obtain⟨p,⟨rfl,e4⟩,⟨rfl,e5⟩,⟨rfl,e6⟩,⟨rfl,e7⟩,hp,hq⟩:=ht2.h
  exact qI.ac (zKb c hk p hp _ Q hq) ⟨⟨rfl,rfl,rfl,rfl,e0⟩,⟨rfl,rfl,rfl,rfl,e1⟩,⟨rfl,rfl,rfl,rfl,e2⟩,⟨rfl,rfl,rfl,rfl,e3⟩,⟨rfl,rfl,rfl,rfl,e4⟩,⟨rfl,rfl,rfl,rfl,e5⟩,⟨rfl,rfl,rfl,rfl,e6⟩,⟨rfl,rfl,rfl,rfl,e7⟩,trivial⟩
 ·cases hc
noncomputable def qXc:Con Tryz.prog:=zRp.add 10 zKh zHm
end Go.Proofs.YtlmjdcbhpffanaaGreat
/- An argument that is an empty slice of frozen memory. -/
namespace Go.Sx
open Go.RowKit
theorem qI.emptyX{P:Program}{f:FuncId}{Q:SV→List HO→Prop}{b:Bool}{sz:Nat}{c:Nat→Nat→qB}(k0:∀ cap,qI P f [.v (.slice none 0 cap)] [] Q)(k1:∀ ad cap,qI P f [.v (.slice (some ad) 0 cap)] [] Q):qI P f [.x 0 []] [.ext b (.s false sz 0 c)] Q:=by
 intro F hF w0 e hm S _
 obtain⟨oa,⟨cap,hv,_⟩,_⟩:=S.sat 0 _ rfl
 have hM:mem w0.w e [.ext b (.s false sz 0 c)]=mem w0.w e []:=by
  funext x
  unfold mem
  have h1:¬ xO e [.ext b (.s false sz 0 c)] x:=by
   rintro⟨i,ho,hi,hb⟩
   match i,hi with
   | 0,hi=>simp only[List.getElem?_cons_zero,sI] at hi; subst hi; exact hb
  have h2:¬ xO e [] x:=by
   rintro⟨i,ho,hi,_⟩
   cases hi
  rw[if_neg h1,if_neg h2]
 have S2:qP F w0 [] e w0.w:=⟨S.os,S.tape,S.output,fun i ho hi=>(by cases hi),fun i ho hi=>(by cases hi),fun i j ho ho' b hi=>(by cases hi),by rw[← hM]; exact S.fact,fun i ho b hi=>(by cases hi),S.zlt,S.ez,by rw[hm]; exact⟨Nat.le_refl _,fun i hi=>by omega⟩⟩
 have e1:qN e [SV.x 0 []]=[.slice oa 0 cap]:=by simp only[qN,den,hv]
 rw[e1]
 cases oa with
 | none=>exact k0 cap F hF w0 e hm S2 ⟨trivial,trivial⟩
 | some ad=>exact k1 ad cap F hF w0 e hm S2 ⟨trivial,trivial⟩
theorem qI.nilS{P:Program}{m:Nat}{f:FuncId}{args:List SV}{h:List HO}{Q:SV→List HO→Prop}(T:TypeId)(sz:Nat)(k:zS P m f args h fun r h'=>Q r h'∨(r=.v (.slice none 0 0)∧h'=[]∧Q (.o 0) [.rowc T sz 0 (.lit 1 [])])):zS P m f args h Q:=by
 intro F hF w0 e hm0 S hw
 refine(k F hF w0 e hm0 S hw).mono fun E w' hE=>?_
 obtain⟨e',r,h',hq,h2,h3,h4⟩:=hE
 rcases hq with hq | ⟨rfl,rfl,hq⟩
 ·exact⟨e',r,h',hq,h2,h3,h4⟩
 ·refine⟨e'.setR 0 (.slice none 0 0),.o 0,_,hq,Nat.zero_lt_one,?_,by rw[h4]; simp [den,Env.setR]⟩
  exact h3.newRowc hF (w':=w') T sz 0 _ (.slice none 0 0) (fun _=>⟨[],World.ownsRow_nil w' 0 T sz,fun u hu=>(by cases hu),fun k hk=>by omega⟩) (fun b hb=>by cases hb) ⟨rfl,rfl,rfl,Nat.le_refl _,fun _ _ _=>rfl⟩
end Go.Sx
/- A value put into a column: plain. -/
namespace Go.Pl
open Go.Sx
structure lSe (n:Nat) (c:Nat→Nat→qB) (r:Int) (ds:List Int) (k1 k2:List Nat→Nat→Prop):Prop where
 h:∃(l:List Nat) (v:Nat),n=l.length∧IsC n 4 c (cE l)∧ds=eI v∧0≤r∧r≤1000000∧l.length≤1000000∧(r<(l.length:Int)→k1 l v)∧((l.length:Int)≤r→k2 l v)
theorem qJs{l:List Nat}{r v:Nat}(h:r<l.length):zJ l r v=l.set r v:=by
 rw[zJ,show r+1-l.length=0 by omega,List.replicate_zero,List.append_nil]
theorem qIa{l:List Nat}{r v:Nat}(h:l.length≤r):zJ (l++[0]) r v=zJ l r v:=by
 rw[zJ,zJ,List.length_append,List.length_singleton,List.append_assoc]
 congr 2
 rw[show r+1-l.length=(r+1-(l.length+1))+1 by omega,List.replicate_succ]
 rfl
theorem zBr:[qB.v (qE (0:Int)),qB.v (qE (0:Int)),qB.v (qE (0:Int)),qB.v (qE (0:Int))]=[qB.v (.int .u64 (qF 0 0:Nat)),qB.v (.int .u64 (qF 0 1:Nat)),qB.v (.int .u64 (qF 0 2:Nat)),qB.v (.int .u64 (qF 0 3:Nat))]:=by
 simp only[qPy]; rfl
end Go.Pl
namespace Go.Proofs.YtlmjdcbhpffanaaGreat
open Go.Sx Go.Pl
set_option linter.unusedVariables false
set_option maxRecDepth 100000
end Go.Proofs.YtlmjdcbhpffanaaGreat
/- Columns cloned; a value put into a column. -/
namespace Go.Proofs.YtlmjdcbhpffanaaGreat
open Go.Sx Go.Pl
set_option linter.unusedVariables false
set_option maxRecDepth 100000
theorem zYm(l:List Nat)(K:List It→St→Prop)(R:SV→List HO→Prop):W (xwp Tryz.prog X qXc [] 60 (qO Tryz.f43 [] []) [] [.at []] ⟨qQ 0 [.x 0 []],[.ext false (.s false 4 l.length (cE l))]⟩ K R)=W ((∀ M:Mem,0<List.length l)∧(∀ M:Mem,(0+List.length l)*32≤140737488355328∧0+List.length l≤140737488355328)∧R (.o 0) [.rowc 53 4 (0+List.length l) (.app 0 (.lit 4 []) (.fn (cE l)))]):=by kernel_rfl
theorem zUa(cap:Nat)(K:List It→St→Prop)(R:SV→List HO→Prop):W (xwp Tryz.prog X qXc [] 60 (qO Tryz.f43 [] []) [] [.at []] ⟨qQ 0 [.v (.slice none 0 cap)],[]⟩ K R)=W (R (.v (Value.slice none 0 0)) []):=by kernel_rfl
theorem zWl(ad:Addr)(cap:Nat)(K:List It→St→Prop)(R:SV→List HO→Prop):W (xwp Tryz.prog X qXc [] 60 (qO Tryz.f43 [] []) [] [.at []] ⟨qQ 0 [.v (.slice (some ad) 0 cap)],[]⟩ K R)=W ((∀ M:Mem,0≤140737488355328∧0≤140737488355328)∧R (.o 0) [.rowc 53 4 0 (.app 0 (.lit 4 []) (.lit 1 []))]):=by kernel_rfl
theorem zPr(l:List Nat)(r:Int)(v:Nat)(K:List It→St→Prop)(R:SV→List HO→Prop):W (xwp Tryz.prog X qXc [] 60 (fxM 1 Tryz.f45 [] [⟨[0,0,1],[0,1,5],[]⟩]) [] [.at []] ⟨qQ 0 [.o 0,.v (.int .i64 r),.agg [.v (.int .u64 (qF v 0:Nat)),.v (.int .u64 (qF v 1:Nat)),.v (.int .u64 (qF v 2:Nat)),.v (.int .u64 (qF v 3:Nat))]],[.rowc 53 4 l.length (.fn (cE l))]⟩ K R)=W (K [.at [0,0,1],.blk 0,.at [1,1]] (St.mk [(0,.o 0),(1,.v (qA r)),(5,.p 1 0)] [.rowc 53 4 l.length (.fn (cE l)),.cells [.v (qE (↑(qF v 0):Int)),.v (qE (↑(qF v 1):Int)),.v (qE (↑(qF v 2):Int)),.v (qE (↑(qF v 3):Int))] 53])):=by kernel_rfl
theorem zQp(l:List Nat)(r:Int)(v n M:Nat)(K:List It→St→Prop)(R:SV→List HO→Prop):W (xwp Tryz.prog X qXc [] 60 (fxM 1 Tryz.f45 [] [⟨[0,0,1],[0,1,5],[]⟩]) [] (.at [0,0,0,1]::.rnd [0,0,0,1] M::[.blk 0,.at [1,1]]) ⟨[(0,.o 0),(1,.v (.int .i64 r)),(5,.p 1 0)],[.rowc 53 4 n (.fn (cE l)),.cells [.v (.int .u64 (qF v 0:Nat)),.v (.int .u64 (qF v 1:Nat)),.v (.int .u64 (qF v 2:Nat)),.v (.int .u64 (qF v 3:Nat))] 53]⟩ K R)=W (bif decide ((↑n:Int)≤r) then(∀ M:Mem,(n+1)*32≤140737488355328∧n+1≤140737488355328)∧K [.rnd [0,0,0,1] M,.blk 0,.at [1,1]] (St.mk [(0,.o 1),(1,.v (qA r)),(5,.p 2 0)] [.gone,.rowc 53 4 (n+1) (.app n (.fn (cE l)) (.lit 4 [.v (qE 0),.v (qE 0),.v (qE 0),.v (qE 0)])),.cells [.v (qE (↑(qF v 0):Int)),.v (qE (↑(qF v 1):Int)),.v (qE (↑(qF v 2):Int)),.v (qE (↑(qF v 3):Int))] 53]) else(∀ M:Mem,(0:Int)≤r∧r<(↑n:Int))∧(∀ M:Mem,Int.toNat r<n)∧R (.o 0) [.rowc 53 4 n (.upd (.fn (cE l)) (Int.toNat r) 0 [.v (qE (↑(qF v 0):Int)),.v (qE (↑(qF v 1):Int)),.v (qE (↑(qF v 2):Int)),.v (qE (↑(qF v 3):Int))])]):=by kernel_rfl
theorem zTv(l:List Nat)(r:Int)(v n M:Nat)(K:List It→St→Prop)(R:SV→List HO→Prop):W (xwp Tryz.prog X qXc [] 60 (fxM 1 Tryz.f45 [] [⟨[0,0,1],[0,1,5],[]⟩]) [] (.at [0,0,0,1]::.rnd [0,0,0,1] M::[.blk 0,.at [1,1]]) ⟨[(0,.o 1),(1,.v (.int .i64 r)),(5,.p 2 0)],[.gone,.rowc 53 4 n (.fn (cE l)),.cells [.v (.int .u64 (qF v 0:Nat)),.v (.int .u64 (qF v 1:Nat)),.v (.int .u64 (qF v 2:Nat)),.v (.int .u64 (qF v 3:Nat))] 53]⟩ K R)=W (bif decide ((↑n:Int)≤r) then(∀ M:Mem,(n+1)*32≤140737488355328∧n+1≤140737488355328)∧K [.rnd [0,0,0,1] M,.blk 0,.at [1,1]] (St.mk [(0,.o 1),(1,.v (qA r)),(5,.p 2 0)] [.gone,.rowc 53 4 (n+1) (.app n (.fn (cE l)) (.lit 4 [.v (qE 0),.v (qE 0),.v (qE 0),.v (qE 0)])),.cells [.v (qE (↑(qF v 0):Int)),.v (qE (↑(qF v 1):Int)),.v (qE (↑(qF v 2):Int)),.v (qE (↑(qF v 3):Int))] 53]) else(∀ M:Mem,(0:Int)≤r∧r<(↑n:Int))∧(∀ M:Mem,Int.toNat r<n)∧R (.o 1) [.gone,.rowc 53 4 n (.upd (.fn (cE l)) (Int.toNat r) 0 [.v (qE (↑(qF v 0):Int)),.v (qE (↑(qF v 1):Int)),.v (qE (↑(qF v 2):Int)),.v (qE (↑(qF v 3):Int))])]):=by kernel_rfl
theorem zPa:Tryz.f43.body.isSome=true:=by kernel_rfl
theorem zOf(x:SV):Nat.ble [x].length Tryz.f43.ntmps=true:=by kernel_rfl
theorem zOg(l:List Nat)(hb:l.length*32≤140737488351232)(Q:SV→List HO→Prop)(hq:Q (.o 0) [.rowc 53 4 l.length (.fn (cE l))]):qI Tryz.prog 43 [.x 0 []] [.ext false (.s false 4 l.length (cE l))] Q:=by
 refine qI.mono (qI.eqv (r0:=.o 0) (h0:=[.rowc 53 4 l.length (.fn (cE l))]) ?_) (fun r h' hh=>by rw[hh.1,hh.2]; exact hq)
 rcases Nat.eq_zero_or_pos l.length with h0 | h0
 ·rw[h0]
  refine qI.emptyX (fun cap=>?_) (fun ad cap=>?_)
  ·refine qI.nilS 53 4 (qL Tryz.func43 zPa (zOf _) ?_)
   refine qC hm 60 ((zUa cap _ _).mpr ⟨?_⟩)
   exact .inr ⟨rfl,rfl,rfl,⟨rfl,rfl,rfl,fun k hk=>by omega⟩,trivial⟩
  ·refine qL Tryz.func43 zPa (zOf _) ?_
   refine qC hm 60 ((zWl ad cap _ _).mpr ⟨?_⟩)
   exact And.intro (fun _=>by omega) ⟨rfl,⟨rfl,rfl,rfl,fun k hk=>by omega⟩,trivial⟩
 ·refine qL Tryz.func43 zPa (zOf _) ?_
  refine qC hm 60 ((zYm l _ _).mpr ⟨?_⟩)
  exact And.intro (fun _=>h0) (And.intro (fun _=>by omega) ⟨rfl,⟨rfl,rfl,Nat.zero_add _,fun k hk j hj=>xN _ _ _ (Nat.zero_le _)⟩,trivial⟩)
noncomputable def zJg:List SV→List HO→Option ((SV→List HO→Prop)→Prop)
 | [.x 0 []],[.ext false (.s false 4 n c)]=>some fun Q=>∃ l:List Nat,n=l.length∧IsC n 4 c (cE l)∧l.length*32≤140737488351232∧Q (.o 0) [.rowc 53 4 l.length (.fn (cE l))]
 | _,_=>none
theorem zFh(args:List SV)(h:List HO)(tr:(SV→List HO→Prop)→Prop)(Q:SV→List HO→Prop)(hc:zJg args h=some tr)(ht:tr Q):qI Tryz.prog 43 args h Q:=by
 unfold zJg at hc
 split at hc
 ·simp only[sI] at hc
  subst hc
  obtain⟨l,rfl,he,hb,hq⟩:=ht
  exact qI.ac (zOg l hb Q hq) ⟨⟨rfl,rfl,rfl,rfl,he⟩,trivial⟩
 ·cases hc
theorem qOf(r:Int)(v:Nat)(hr:0≤r∧r≤1000000)(Q:SV→List HO→Prop):∀(d:Nat) (l:List Nat),l.length+d=r.toNat+1→l.length≤2000000→(∀ h',HEs h' [.gone,.rowc 53 4 (zJ l r.toNat v).length (.fn (cE (zJ l r.toNat v)))]→Q (.o 1) h') →
  zX Tryz.prog 1 Tryz.f45 Q (.rnd [0,0,0,1] (d+1)::[.blk 0,.at [1,1]]) ⟨[(0,.o 1),(1,.v (.int .i64 r)),(5,.p 2 0)],[.gone,.rowc 53 4 l.length (.fn (cE l)),.cells [.v (.int .u64 (qF v 0:Nat)),.v (.int .u64 (qF v 1:Nat)),.v (.int .u64 (qF v 2:Nat)),.v (.int .u64 (qF v 3:Nat))] 53]⟩
 | 0,l,hd,hl,hq=>by
  refine FOk.rnd (qT hm 60 ((zTv l r v l.length 0 _ _).mpr ⟨?_⟩))
  rw[qD,if_neg (by omega)]
  refine aI (aI (hq _ ?_))
  have h1:r.toNat<l.length:=by omega
  rw[qJs h1,List.length_set]
  exact⟨HE.refl _,⟨rfl,rfl,rfl,qRi l r.toNat v h1⟩,trivial⟩
 | d+1,l,hd,hl,hq=>by
  refine FOk.rnd (qT hm 60 ((zTv l r v l.length (d+1) _ _).mpr ⟨?_⟩))
  rw[qD,if_pos (by omega)]
  refine And.intro (fun _=>by omega) ?_
  have ih:=qOf r v hr Q d (l++[0]) (by rw[List.length_append,List.length_singleton]; omega) (by rw[List.length_append,List.length_singleton]; omega) (by rw[qIa (by omega)]; exact hq)
  rw[zBr]
  exact FOk.cv ih ⟨HE.refl _,⟨rfl,rfl,by rw[List.length_append]; rfl,qQw 0 rfl⟩,HE.refl _,trivial⟩
theorem zTu:Tryz.f45.body.isSome=true:=by kernel_rfl
theorem zQe(r:Int)(v:Nat):Nat.ble [SV.o 0,.v (.int .i64 r),.agg [.v (.int .u64 (qF v 0:Nat)),.v (.int .u64 (qF v 1:Nat)),.v (.int .u64 (qF v 2:Nat)),.v (.int .u64 (qF v 3:Nat))]].length Tryz.f45.ntmps=true:=by kernel_rfl
theorem zLh(l:List Nat)(r:Int)(v:Nat)(hr:0≤r∧r≤1000000)(hl:l.length≤1000000)(Q:SV→List HO→Prop)(hq1:r<(l.length:Int)→Q (.o 0) [.rowc 53 4 (zJ l r.toNat v).length (.fn (cE (zJ l r.toNat v)))])(hq2:(l.length:Int)≤r→Q (.o 1) [.gone,.rowc 53 4 (zJ l r.toNat v).length (.fn (cE (zJ l r.toNat v)))]):zS Tryz.prog 1 45 [.o 0,.v (.int .i64 r),.agg [.v (.int .u64 (qF v 0:Nat)),.v (.int .u64 (qF v 1:Nat)),.v (.int .u64 (qF v 2:Nat)),.v (.int .u64 (qF v 3:Nat))]] [.rowc 53 4 l.length (.fn (cE l))] Q:=by
 by_cases h:r<(l.length:Int)
 ·refine qI.mono (qI.eqv (r0:=.o 0) (h0:=[.rowc 53 4 (zJ l r.toNat v).length (.fn (cE (zJ l r.toNat v)))]) ?_) (fun r' h' hh=>by rw[hh.1,hh.2]; exact hq1 h)
  refine qL Tryz.func45 zTu (zQe r v) ?_
  refine qT hm 60 ((zPr l r v _ _).mpr ⟨?_⟩)
  refine FOk.loop 1 (by kernel_rfl) (FOk.rnd (qT hm 60 ((zQp l r v l.length 0 _ _).mpr ⟨?_⟩)))
  rw[qD,if_neg (by omega)]
  have h1:r.toNat<l.length:=by omega
  rw[qJs h1,List.length_set]
  exact aI (And.intro (fun _=>by omega) ⟨rfl,⟨rfl,rfl,rfl,qRi l r.toNat v h1⟩,trivial⟩)
 ·refine qI.mono (qI.eqv (r0:=.o 1) (h0:=[.gone,.rowc 53 4 (zJ l r.toNat v).length (.fn (cE (zJ l r.toNat v)))]) ?_) (fun r' h' hh=>by rw[hh.1,hh.2]; exact hq2 (by omega))
  refine qL Tryz.func45 zTu (zQe r v) ?_
  refine qT hm 60 ((zPr l r v _ _).mpr ⟨?_⟩)
  refine FOk.loop ((r.toNat+1-(l.length+1))+2) (by kernel_rfl) (FOk.rnd (qT hm 60 ((zQp l r v l.length ((r.toNat+1-(l.length+1))+1) _ _).mpr ⟨?_⟩)))
  rw[qD,if_pos (by omega)]
  refine And.intro (fun _=>by omega) ?_
  have ih:=qOf r v hr (fun r' h'=>r'=.o 1∧HEs h' [.gone,.rowc 53 4 (zJ l r.toNat v).length (.fn (cE (zJ l r.toNat v)))]) (r.toNat+1-(l.length+1)) (l++[0]) (by rw[List.length_append,List.length_singleton]; omega) (by rw[List.length_append,List.length_singleton]; omega) (by rw[qIa (by omega)]; exact fun h' hh=>⟨rfl,hh⟩)
  rw[zBr]
  exact FOk.cv ih ⟨HE.refl _,⟨rfl,rfl,by rw[List.length_append]; rfl,qQw 0 rfl⟩,HE.refl _,trivial⟩
noncomputable def zOa:List SV→List HO→Option ((SV→List HO→Prop)→Prop)
 | [.o 0,.v (.int .i64 r),.agg [.v (.int .u64 v0),.v (.int .u64 v1),.v (.int .u64 v2),.v (.int .u64 v3)]],[.rowc 53 4 n c]=>some fun Q=>lSe n c.at r [v0,v1,v2,v3] (fun l v=>Q (.o 0) [.rowc 53 4 (zJ l r.toNat v).length (.fn (cE (zJ l r.toNat v)))]) (fun l v=>Q (.o 1) [.gone,.rowc 53 4 (zJ l r.toNat v).length (.fn (cE (zJ l r.toNat v)))])
 | _,_=>none
theorem zHh(args:List SV)(h:List HO)(tr:(SV→List HO→Prop)→Prop)(Q:SV→List HO→Prop)(hc:zOa args h=some tr)(ht:tr Q):zS Tryz.prog h.length 45 args h Q:=by
 unfold zOa at hc
 split at hc
 ·simp only[sI] at hc
  subst hc
  obtain⟨l,v,rfl,he,hds,h0,h1,h2,hq1,hq2⟩:=ht.h
  simp only[List.cons.injEq,and_true] at hds
  obtain⟨rfl,rfl,rfl,rfl⟩:=hds
  exact qI.ac (zLh l _ v ⟨h0,h1⟩ h2 Q hq1 hq2) ⟨⟨rfl,rfl,rfl,he⟩,trivial⟩
 ·cases hc
noncomputable def zTw:Con Tryz.prog:=(qXc.add 43 zJg zFh).addW 45 zOa zHh
end Go.Proofs.YtlmjdcbhpffanaaGreat
/- Puts whose rows are taken: plain. -/
namespace Go.Pl
open Go.Sx
def zMv(a b:Int):Int:=IntKind.wrap .u64 ((Int.toNat (a%(18446744073709551616:Int))&&&Int.toNat (b%(18446744073709551616:Int)):Nat):Int)
def orV(a b:Int):Int:=IntKind.wrap .u64 ((Int.toNat (a%(18446744073709551616:Int))|||Int.toNat (b%(18446744073709551616:Int)):Nat):Int)
def tkB(kl:List (List Int))(ml:List Int)(mk:Int)(x:Pt):Bool:=!zMv (zG kl ml [x.1,x.2]) mk==(0:Int)
structure lPs (n:Nat) (c:Nat→Nat→qB) (i:Nat) (k:List (Int×List Pt)→Prop):Prop where
 h:∃ rg:List (Int×List Pt),n=rg.length∧IsC n 2 c (cRg rg)∧i<rg.length∧(gRg rg i).2.length≤4000000000000∧k rg
theorem zOm(rg:List (Int×List Pt))(i:Nat)(hi:i<rg.length)(h:(gRg rg i).2.length≤4000000000000){k:List (Int×List Pt)→Prop}(hk:k rg):lPs rg.length (cRg rg) i k:=⟨⟨rg,rfl,IsC.refl _ _ _,hi,h,hk⟩⟩
theorem qUj{q:Pt→Bool}{l:List Pt}{k:Nat}(h:k<l.length):zB q k (l.drop k)=if q (gPt l k) then(k:Int) else zB q (k+1) (l.drop (k+1)):=by
 rw[qAk h,zB]
end Go.Pl
namespace Go.Proofs.YtlmjdcbhpffanaaGreat
open Go.Sx Go.Pl
set_option linter.unusedVariables false
set_option maxRecDepth 100000
noncomputable def zIg:Con Tryz.prog:=zTw.setW 82
end Go.Proofs.YtlmjdcbhpffanaaGreat
/- The first put whose rows are taken. -/
namespace Go.Proofs.YtlmjdcbhpffanaaGreat
open Go.Sx Go.Pl
set_option linter.unusedVariables false
set_option maxRecDepth 100000
theorem zVi(kl:List (List Int))(ml:List Int)(mk:Int)(rg:List (Int×List Pt))(i:Nat)(K:List It→St→Prop)(R:SV→List HO→Prop):W (xwp Tryz.prog X zIg [(82,[])] 60 (fxM 4 Tryz.f116 [] [⟨[0,1,0,1],[8,7,0,1],[]⟩]) [] [.at []] ⟨qQ 0 [.x 0 [(2,i,1)],.fn (.func 82) [] [.p 1 0,.p 2 0]],[.ext false (.s false 2 rg.length (cRg rg)),.cells [.m 3] 93,.cells [.v (.int .u64 mk)] 51,.mp true [.i64,.i64] kl (.ints .u64 ml)]⟩ K R)=W ((∀ M:Mem,i<List.length rg)∧K [.at [0,1,0,1],.blk 0,.at [1,1]] (St.mk [(8,.v (qA 0)),(7,.v (qA (↑(List.length (gRg rg i).2):Int))),(0,.x 0 [(2,i,1)]),(1,SV.fn (Fn.func 82) [] [.p 1 0,.p 2 0])] [.ext false (.s false 2 rg.length (cRg rg)),.cells [.m 3] 93,.cells [.v (qE mk)] 51,.mp true [IntKind.i64,IntKind.i64] kl (Mc.ints IntKind.u64 ml)])):=by kernel_rfl
theorem zQx(kl:List (List Int))(ml:List Int)(mk:Int)(rg:List (Int×List Pt))(i:Nat)(k M:Nat)(K:List It→St→Prop)(R:SV→List HO→Prop):W (xwp Tryz.prog X zIg [(82,[])] 60 (fxM 4 Tryz.f116 [] [⟨[0,1,0,1],[8,7,0,1],[]⟩]) [] (.at [0,0,1,0,1]::.rnd [0,0,1,0,1] M::[.blk 0,.at [1,1]]) ⟨[(8,.v (.int .i64 (k:Int))),(7,.v (.int .i64 ((gRg rg i).2.length:Int))),(0,.x 0 [(2,i,1)]),(1,.fn (.func 82) [] [.p 1 0,.p 2 0])],[.ext false (.s false 2 rg.length (cRg rg)),.cells [.m 3] 93,.cells [.v (.int .u64 mk)] 51,.mp true [.i64,.i64] kl (.ints .u64 ml)]⟩ K R)=W (bif decide ((↑k:Int)<(↑(List.length (gRg rg i).2):Int)) then(∀ M:Mem,i<List.length rg)∧(∀ M:Mem,(0:Int)≤(↑k:Int)∧(↑k:Int)<(↑(List.length (gRg rg i).2):Int))∧(∀ M:Mem,i<List.length rg)∧(∀ M:Mem,k<List.length (gRg rg i).2)∧bif !IntKind.wrap IntKind.u64 (↑(Int.toNat (zG kl ml [(gPt (gRg rg i).2 k).1,(gPt (gRg rg i).2 k).2]%(18446744073709551616:Int))&&&Int.toNat (mk%(18446744073709551616:Int))):Int)==(0:Int) then R (.v (qA (↑k:Int))) [.ext false (.s false 2 rg.length (cRg rg)),.cells [.m 3] 93,.cells [.v (qE mk)] 51,.mp true [IntKind.i64,IntKind.i64] kl (Mc.ints IntKind.u64 ml)] else K [.rnd [0,0,1,0,1] M,.blk 0,.at [1,1]] (St.mk [(8,.v (qA (IntKind.wrap .i64 ((↑k:Int)+(1:Int))))),(7,.v (qA (↑(List.length (gRg rg i).2):Int))),(0,.x 0 [(2,i,1)]),(1,SV.fn (Fn.func 82) [] [.p 1 0,.p 2 0])] [.ext false (.s false 2 rg.length (cRg rg)),.cells [.m 3] 93,.cells [.v (qE mk)] 51,.mp true [IntKind.i64,IntKind.i64] kl (Mc.ints IntKind.u64 ml)]) else R (.v (qA (-1))) [.ext false (.s false 2 rg.length (cRg rg)),.cells [.m 3] 93,.cells [.v (qE mk)] 51,.mp true [IntKind.i64,IntKind.i64] kl (Mc.ints IntKind.u64 ml)]):=by kernel_rfl
theorem qTt(kl:List (List Int))(ml:List Int)(mk:Int)(rg:List (Int×List Pt))(i:Nat)(hi:i<rg.length)(hb:(gRg rg i).2.length≤4000000000000)(Q:SV→List HO→Prop):∀(d k:Nat),k+d=(gRg rg i).2.length→Q (.v (.int .i64 (zB (tkB kl ml mk) k ((gRg rg i).2.drop k)))) [.ext false (.s false 2 rg.length (cRg rg)),.cells [.m 3] 93,.cells [.v (.int .u64 mk)] 51,.mp true [.i64,.i64] kl (.ints .u64 ml)] →
  zX Tryz.prog 4 Tryz.f116 Q (.rnd [0,0,1,0,1] (d+1)::[.blk 0,.at [1,1]]) ⟨[(8,.v (.int .i64 (k:Int))),(7,.v (.int .i64 ((gRg rg i).2.length:Int))),(0,.x 0 [(2,i,1)]),(1,.fn (.func 82) [] [.p 1 0,.p 2 0])],[.ext false (.s false 2 rg.length (cRg rg)),.cells [.m 3] 93,.cells [.v (.int .u64 mk)] 51,.mp true [.i64,.i64] kl (.ints .u64 ml)]⟩
 | 0,k,hd,hq=>by
  refine FOk.rnd (qT hm 60 ((zQx kl ml mk rg i k 0 _ _).mpr ⟨?_⟩))
  rw[qD,if_neg (by omega)]
  rw[show k=(gRg rg i).2.length by omega,List.drop_length] at hq
  exact hq
 | d+1,k,hd,hq=>by
  have hk:k<(gRg rg i).2.length:=by omega
  rw[qUj hk] at hq
  refine FOk.rnd (qT hm 60 ((zQx kl ml mk rg i k (d+1) _ _).mpr ⟨?_⟩))
  rw[qD,if_pos (by omega),qK _ (by omega)]
  repeat' (refine And.intro (fun _=>by omega) ?_)
  refine qJ (fun h=>?_) (fun h=>?_)
  ·rw[show tkB kl ml mk (gPt (gRg rg i).2 k)=true from h] at hq; exact hq
  ·rw[show tkB kl ml mk (gPt (gRg rg i).2 k)=false from h] at hq; exact qTt kl ml mk rg i hi hb Q d (k+1) (by omega) hq
theorem zWn:Tryz.f116.body.isSome=true:=by kernel_rfl
theorem zWw:Nat.ble [SV.x 0 [],.fn (.func 82) [] [.p 1 0,.p 2 0]].length Tryz.f116.ntmps=true:=by kernel_rfl
theorem zOq(kl:List (List Int))(ml:List Int)(mk:Int)(rg:List (Int×List Pt))(i:Nat)(hi:i<rg.length)(hb:(gRg rg i).2.length≤4000000000000)(Q:SV→List HO→Prop)(hq:Q (.v (.int .i64 (zB (tkB kl ml mk) 0 (gRg rg i).2))) [.ext false (.s false 2 rg.length (cRg rg)),.cells [.m 3] 93,.cells [.v (.int .u64 mk)] 51,.mp true [.i64,.i64] kl (.ints .u64 ml)]):zS Tryz.prog 4 116 [.x 0 [(2,i,1)],.fn (.func 82) [] [.p 1 0,.p 2 0]] [.ext false (.s false 2 rg.length (cRg rg)),.cells [.m 3] 93,.cells [.v (.int .u64 mk)] 51,.mp true [.i64,.i64] kl (.ints .u64 ml)] Q:=by
 refine qL Tryz.func116 zWn ?_ ?_
 ·exact zWw
 refine qT hm 60 ((zVi kl ml mk rg i _ _).mpr ⟨?_⟩)
 repeat' (refine And.intro (fun _=>by omega) ?_)
 exact FOk.loop ((gRg rg i).2.length+1) (by kernel_rfl) (qTt kl ml mk rg i hi hb Q (gRg rg i).2.length 0 (by omega) hq)
noncomputable def zJh:List SV→List HO→Option ((SV→List HO→Prop)→Prop)
 | [.x 0 [(2,i,1)],.fn (.func 82) [] [.p 1 0,.p 2 0]],[.ext false (.s false 2 n c),.cells [.m 3] 93,.cells [.v (.int .u64 mk)] 51,.mp true [.i64,.i64] kl (.ints .u64 ml)]=>some fun Q=>lPs n c i fun rg=>Q (.v (.int .i64 (zB (tkB kl ml mk) 0 (gRg rg i).2))) [.ext false (.s false 2 rg.length (cRg rg)),.cells [.m 3] 93,.cells [.v (.int .u64 mk)] 51,.mp true [.i64,.i64] kl (.ints .u64 ml)]
 | _,_=>none
theorem zHk(args:List SV)(h:List HO)(tr:(SV→List HO→Prop)→Prop)(Q:SV→List HO→Prop)(hc:zJh args h=some tr)(ht:tr Q):zS Tryz.prog h.length 116 args h Q:=by
 unfold zJh at hc
 split at hc
 ·simp only[sI] at hc
  subst hc
  obtain⟨rg,rfl,he,hi,hb,hq⟩:=ht.h
  exact qI.ac (zOq _ _ _ rg _ hi hb Q hq) ⟨⟨rfl,rfl,rfl,rfl,he⟩,HE.refl _,HE.refl _,HE.refl _,trivial⟩
 ·cases hc
noncomputable def zRu:Con Tryz.prog:=zTw.addW 116 zJh zHk
noncomputable def zEg:Con Tryz.prog:=(zRu.setW 81).setW 80
end Go.Proofs.YtlmjdcbhpffanaaGreat
/- Where a region may stand: plain. -/
namespace Go.Pl
open Go.Sx
def yL(rows s:Int):Int:=(IntKind.wrap IntKind.u64 (IntKind.wrap IntKind.u64 (IntKind.wrap IntKind.u64 ((1:Int)*(2:Int)^if Int.toNat rows≤64 then Int.toNat rows else 64)-(1:Int))*(2:Int)^if Int.toNat s≤64 then Int.toNat s else 64))
def xU(mk:Int):List (List Int)→List Int→List Pt→List (List Int)×List Int
 | kl,ml,x::t=>xU mk (zK kl [x.1,x.2]) (qU kl ml [x.1,x.2] (orV (zG kl ml [x.1,x.2]) mk)) t
 | kl,ml,[]=>(kl,ml)
def qFm(kl:List (List Int))(ml:List Int)(rows u:Int)(ps:List Pt):Nat→Int→Option Int
 | 0,_=>none
 | d+1,s=>if ps.any (tkB kl ml (yL rows s)) then qFm kl ml rows u ps d (s+1) else some s
def qAu(kl:List (List Int))(ml:List Int)(rows u:Int)(ps:List Pt):Option Int:=if rows≤u then qFm kl ml rows u ps (u-rows+1).toNat 0 else none
structure lPc (kl:List (List Int)) (ml:List Int) (rows u:Int) (n:Nat) (c:Nat→Nat→qB) (i:Nat) (k0:List (Int×List Pt)→Prop) (k1:List (Int×List Pt)→Int→Prop):Prop where
 h:∃ rg:List (Int×List Pt),n=rg.length∧IsC n 2 c (cRg rg)∧i<rg.length∧(gRg rg i).2.length≤4000000000000∧ml.length=kl.length∧0≤rows∧u≤1000000∧(qAu kl ml rows u (gRg rg i).2=none→k0 rg)∧∀ s,qAu kl ml rows u (gRg rg i).2=some s→k1 rg s
theorem qNr:∀(kl:List (List Int)) (l:List Int) (x:List Int) (a v:Int),l.length=kl.length→(qU kl l x a).set (xP kl x) v=qU kl l x v
 | [],[],_,_,_,_=>rfl
 | [],b::t,x,a,v,h=>by simp at h
 | k::r,[],x,a,v,h=>by simp at h
 | k::r,b::t,x,a,v,h=>by
  by_cases hx:x=k
  ·simp [qU,xP,hx]
  ·simp [qU,xP,hx,qNr r t x a v (by simpa using h)]
theorem qYr:∀(kl:List (List Int)) (x:List Int),xP kl x<(zK kl x).length
 | [],x=>by simp [xP,zK]
 | k::r,x=>by
  by_cases hx:x=k
  ·simp [xP,zK,hx]
  ·have:=qYr r x
   simp [xP,zK,hx]; omega
theorem qEv:∀(kl:List (List Int)) (l:List Int) (x:List Int) (a:Int),l.length=kl.length→zG (zK kl x) (qU kl l x a) x=a
 | [],[],x,a,_=>by simp [zK,qU,zG]
 | [],b::t,x,a,h=>by simp at h
 | k::r,[],x,a,h=>by simp at h
 | k::r,b::t,x,a,h=>by
  by_cases hx:x=k
  ·simp [zK,qU,zG,hx]
  ·simp [zK,qU,zG,hx,qEv r t x a (by simpa using h)]
theorem qUp(mk:Int):∀(ps:List Pt) (kl:List (List Int)) (ml:List Int),ml.length=kl.length→(xU mk kl ml ps).2.length=(xU mk kl ml ps).1.length
 | [],_,_,h=>h
 | _::t,kl,ml,h=>qUp mk t _ _ (xK kl ml _ _ h)
end Go.Pl
namespace Go.Proofs.YtlmjdcbhpffanaaGreat
open Go.Sx Go.Pl
set_option linter.unusedVariables false
set_option maxRecDepth 100000
end Go.Proofs.YtlmjdcbhpffanaaGreat
/- Where a region stands. -/
namespace Go.Proofs.YtlmjdcbhpffanaaGreat
open Go.Sx Go.Pl
set_option linter.unusedVariables false
set_option maxRecDepth 100000
theorem zVx(kl:List (List Int))(ml:List Int)(rows u:Int)(rg:List (Int×List Pt))(i:Nat)(K:List It→St→Prop)(R:SV→List HO→Prop):W (xwp Tryz.prog X zEg [(80,[]),(81,[])] 60 (fxM 2 Tryz.f44 [] [⟨[0,1,0,1],[8,4,3,2],[]⟩,⟨[0,1,0,1,1,0,0,1,0,0,1,0,1],[38,37,36,9,8,3],[]⟩]) [] [.at []] ⟨qQ 0 [.m 0,.agg [.v (.int .i64 rows),.x 1 [(2,i,1)]],.v (.int .i64 u)],[.mp true [.i64,.i64] kl (.ints .u64 ml),.ext false (.s false 2 rg.length (cRg rg))]⟩ K R)=W (K [.at [0,1,0,1],.blk 0,.at [1,1]] (St.mk [(8,.v (qA 0)),(4,.p 2 0),(3,.p 3 0),(2,.v (qA u))] [.mp true [IntKind.i64,IntKind.i64] kl (Mc.ints IntKind.u64 ml),.ext false (.s false 2 rg.length (cRg rg)),.cells [.v (qA rows),.x 1 [(2,i,1)]] 50,.cells [.m 0] 93])):=by kernel_rfl
theorem zNv(kl:List (List Int))(ml:List Int)(rows u:Int)(rg:List (Int×List Pt))(i:Nat)(s:Int)(M:Nat)(K:List It→St→Prop)(R:SV→List HO→Prop):W (xwp Tryz.prog X zEg [(80,[]),(81,[])] 60 (fxM 2 Tryz.f44 [] [⟨[0,1,0,1],[8,4,3,2],[]⟩,⟨[0,1,0,1,1,0,0,1,0,0,1,0,1],[38,37,36,9,8,3],[]⟩]) [] (.at [0,0,1,0,1]::.rnd [0,0,1,0,1] M::[.blk 0,.at [1,1]]) (St.mk [(8,.v (qA (s:Int))),(4,.p 2 0),(3,.p 3 0),(2,.v (qA u))] [.mp true [IntKind.i64,IntKind.i64] kl (Mc.ints IntKind.u64 ml),.ext false (.s false 2 rg.length (cRg rg)),.cells [.v (qA rows),.x 1 [(2,i,1)]] 50,.cells [.m 0] 93]) K R)=W (bif decide (rows≤u) then bif decide (s≤IntKind.wrap .i64 (u-rows)) then(∀ M:Mem,¬rows<(0:Int))∧(∀ M:Mem,¬s<(0:Int))∧(∀ M:Mem,0+1≤1)∧lPs rg.length (cRg rg) i fun(rg:List (Int×List Pt))=>bif decide ((0:Int)≤zB (tkB kl ml (IntKind.wrap IntKind.u64 (IntKind.wrap IntKind.u64 (IntKind.wrap IntKind.u64 ((1:Int)*(2:Int)^if Int.toNat rows≤64 then Int.toNat rows else 64)-(1:Int))*(2:Int)^if Int.toNat s≤64 then Int.toNat s else 64))) 0 (gRg rg i).2) then K [.rnd [0,0,1,0,1] M,.blk 0,.at [1,1]] (St.mk [(8,.v (qA (IntKind.wrap .i64 (s+(1:Int))))),(4,.p 2 0),(3,.p 3 0),(2,.v (qA u))] [.mp true [IntKind.i64,IntKind.i64] kl (Mc.ints IntKind.u64 ml),.ext false (.s false 2 rg.length (cRg rg)),.cells [.v (qA rows),.x 1 [(2,i,1)]] 50,.cells [.m 0] 93]) else(∀ M:Mem,i<List.length rg)∧K [.at [0,1,0,1,1,0,0,1,0,0,1,0,1],.blk 2,.at [1,1,1,0,0,1,0,0,1,0,1],.blk 1,.at [1,1,0,0,1,0,1],.rnd [0,0,1,0,1] M,.blk 0,.at [1,1]] (St.mk [(38,.v (qA 0)),(37,.v (qA (↑(List.length (gRg rg i).2):Int))),(36,.x 1 [(2,i,1)]),(9,.p 2 0),(8,.v (qA s)),(3,.p 3 0)] [.mp true [IntKind.i64,IntKind.i64] kl (Mc.ints IntKind.u64 ml),.ext false (.s false 2 rg.length (cRg rg)),.cells [.v (qE (IntKind.wrap IntKind.u64 (IntKind.wrap IntKind.u64 (IntKind.wrap IntKind.u64 ((1:Int)*(2:Int)^if Int.toNat rows≤64 then Int.toNat rows else 64)-(1:Int))*(2:Int)^if Int.toNat s≤64 then Int.toNat s else 64)))] 51,.cells [.m 0] 93]) else R (.tup [.v (qA 0),.v (.bool false)]) [.mp true [IntKind.i64,IntKind.i64] kl (Mc.ints IntKind.u64 ml),.ext false (.s false 2 rg.length (cRg rg))] else R (.tup [.v (qA 0),.v (.bool false)]) [.mp true [IntKind.i64,IntKind.i64] kl (Mc.ints IntKind.u64 ml),.ext false (.s false 2 rg.length (cRg rg))]):=by kernel_rfl
theorem zTd(kl:List (List Int))(ml:List Int)(mk s:Int)(rg:List (Int×List Pt))(i k M2 M:Nat)(K:List It→St→Prop)(R:SV→List HO→Prop):W (xwp Tryz.prog X zEg [(80,[]),(81,[])] 60 (fxM 2 Tryz.f44 [] [⟨[0,1,0,1],[8,4,3,2],[]⟩,⟨[0,1,0,1,1,0,0,1,0,0,1,0,1],[38,37,36,9,8,3],[]⟩]) [] (.at [0,0,1,0,1,1,0,0,1,0,0,1,0,1]::.rnd [0,0,1,0,1,1,0,0,1,0,0,1,0,1] M::[.blk 2,.at [1,1,1,0,0,1,0,0,1,0,1],.blk 1,.at [1,1,0,0,1,0,1],.rnd [0,0,1,0,1] M2,.blk 0,.at [1,1]]) ⟨[(38,.v (.int .i64 (k:Int))),(37,.v (.int .i64 ((gRg rg i).2.length:Int))),(36,.x 1 [(2,i,1)]),(9,.p 2 0),(8,.v (.int .i64 s)),(3,.p 3 0)],[.mp true [.i64,.i64] kl (.ints .u64 ml),.ext false (.s false 2 rg.length (cRg rg)),.cells [.v (.int .u64 mk)] 51,.cells [.m 0] 93]⟩ K R)=W (bif decide ((↑k:Int)<(↑(List.length (gRg rg i).2):Int)) then((∀ M:Mem,i<List.length rg)∧(∀ M:Mem,(0:Int)≤(↑k:Int)∧(↑k:Int)<(↑(List.length (gRg rg i).2):Int))∧(∀ M:Mem,i<List.length rg)∧(∀ M:Mem,k<List.length (gRg rg i).2)∧(∀ M:Mem,0+7≤7)∧(∀ M:Mem,(0:Int)≤(↑(xP kl [(gPt (gRg rg i).2 k).1,(gPt (gRg rg i).2 k).2]):Int)∧(↑(xP kl [(gPt (gRg rg i).2 k).1,(gPt (gRg rg i).2 k).2]):Int)<(↑(List.length (zK kl [(gPt (gRg rg i).2 k).1,(gPt (gRg rg i).2 k).2])):Int))∧K [.rnd [0,0,1,0,1,1,0,0,1,0,0,1,0,1] M,.blk 2,.at [1,1,1,0,0,1,0,0,1,0,1],.blk 1,.at [1,1,0,0,1,0,1],.rnd [0,0,1,0,1] M2,.blk 0,.at [1,1]] (St.mk [(38,.v (qA (IntKind.wrap .i64 ((↑k:Int)+(1:Int))))),(37,.v (qA (↑(List.length (gRg rg i).2):Int))),(36,.x 1 [(2,i,1)]),(9,.p 2 0),(8,.v (qA s)),(3,.p 3 0)] [.mp true [IntKind.i64,IntKind.i64] (zK kl [(gPt (gRg rg i).2 k).1,(gPt (gRg rg i).2 k).2]) (Mc.ints IntKind.u64 (List.set (qU kl ml [(gPt (gRg rg i).2 k).1,(gPt (gRg rg i).2 k).2] (zG kl ml [(gPt (gRg rg i).2 k).1,(gPt (gRg rg i).2 k).2])) (xP kl [(gPt (gRg rg i).2 k).1,(gPt (gRg rg i).2 k).2]) (IntKind.wrap IntKind.u64 (↑(Int.toNat (zG kl ml [(gPt (gRg rg i).2 k).1,(gPt (gRg rg i).2 k).2]%(18446744073709551616:Int))|||Int.toNat (mk%(18446744073709551616:Int))):Int)))),.ext false (.s false 2 rg.length (cRg rg)),.cells [.v (qE mk)] 51,.cells [.m 0] 93]))∧(∀ M:Mem,i<List.length rg)∧(∀ M:Mem,(0:Int)≤(↑k:Int)∧(↑k:Int)<(↑(List.length (gRg rg i).2):Int))∧(∀ M:Mem,i<List.length rg)∧(∀ M:Mem,k<List.length (gRg rg i).2)∧(∀ M:Mem,0+7≤7)∧(∀ M:Mem,(0:Int)≤(↑(xP kl [(gPt (gRg rg i).2 k).1,(gPt (gRg rg i).2 k).2]):Int)∧(↑(xP kl [(gPt (gRg rg i).2 k).1,(gPt (gRg rg i).2 k).2]):Int)<(↑(List.length (zK kl [(gPt (gRg rg i).2 k).1,(gPt (gRg rg i).2 k).2])):Int))∧K [.rnd [0,0,1,0,1,1,0,0,1,0,0,1,0,1] M,.blk 2,.at [1,1,1,0,0,1,0,0,1,0,1],.blk 1,.at [1,1,0,0,1,0,1],.rnd [0,0,1,0,1] M2,.blk 0,.at [1,1]] (St.mk [(38,.v (qA (IntKind.wrap .i64 ((↑k:Int)+(1:Int))))),(37,.v (qA (↑(List.length (gRg rg i).2):Int))),(36,.x 1 [(2,i,1)]),(9,.p 2 0),(8,.v (qA s)),(3,.p 3 0)] [.mp true [IntKind.i64,IntKind.i64] (zK kl [(gPt (gRg rg i).2 k).1,(gPt (gRg rg i).2 k).2]) (Mc.ints IntKind.u64 (List.set (qU kl ml [(gPt (gRg rg i).2 k).1,(gPt (gRg rg i).2 k).2] (zG kl ml [(gPt (gRg rg i).2 k).1,(gPt (gRg rg i).2 k).2])) (xP kl [(gPt (gRg rg i).2 k).1,(gPt (gRg rg i).2 k).2]) (IntKind.wrap IntKind.u64 (↑(Int.toNat (zG (zK kl [(gPt (gRg rg i).2 k).1,(gPt (gRg rg i).2 k).2]) (qU kl ml [(gPt (gRg rg i).2 k).1,(gPt (gRg rg i).2 k).2] (zG kl ml [(gPt (gRg rg i).2 k).1,(gPt (gRg rg i).2 k).2])) [(gPt (gRg rg i).2 k).1,(gPt (gRg rg i).2 k).2]%(18446744073709551616:Int))|||Int.toNat (mk%(18446744073709551616:Int))):Int)))),.ext false (.s false 2 rg.length (cRg rg)),.cells [.v (qE mk)] 51,.cells [.m 0] 93]) else R (.tup [.v (qA s),.v (.bool true)]) [.mp true [IntKind.i64,IntKind.i64] kl (Mc.ints IntKind.u64 ml),.ext false (.s false 2 rg.length (cRg rg))]):=by kernel_rfl
theorem qPb(mk s:Int)(rg:List (Int×List Pt))(i:Nat)(hi0:i<rg.length)(hb:(gRg rg i).2.length≤4000000000000)(M2:Nat)(Q:SV→List HO→Prop):∀(d k:Nat) (kl:List (List Int)) (ml:List Int),k+d=(gRg rg i).2.length→ml.length=kl.length→Q (.tup [.v (.int .i64 s),.v (.bool true)]) [.mp true [.i64,.i64] (xU mk kl ml ((gRg rg i).2.drop k)).1 (.ints .u64 (xU mk kl ml ((gRg rg i).2.drop k)).2),.ext false (.s false 2 rg.length (cRg rg))] →
  zX Tryz.prog 2 Tryz.f44 Q (.rnd [0,0,1,0,1,1,0,0,1,0,0,1,0,1] (d+1)::[.blk 2,.at [1,1,1,0,0,1,0,0,1,0,1],.blk 1,.at [1,1,0,0,1,0,1],.rnd [0,0,1,0,1] M2,.blk 0,.at [1,1]]) ⟨[(38,.v (.int .i64 (k:Int))),(37,.v (.int .i64 ((gRg rg i).2.length:Int))),(36,.x 1 [(2,i,1)]),(9,.p 2 0),(8,.v (.int .i64 s)),(3,.p 3 0)],[.mp true [.i64,.i64] kl (.ints .u64 ml),.ext false (.s false 2 rg.length (cRg rg)),.cells [.v (.int .u64 mk)] 51,.cells [.m 0] 93]⟩
 | 0,k,kl,ml,hd,hl,hq=>by
  refine FOk.rnd (qT hm 60 ((zTd kl ml mk s rg i k M2 0 _ _).mpr ⟨?_⟩))
  rw[qD,if_neg (by omega)]
  rw[show k=(gRg rg i).2.length by omega,List.drop_length] at hq
  exact hq
 | d+1,k,kl,ml,hd,hl,hq=>by
  have hk:k<(gRg rg i).2.length:=by omega
  rw[qAk hk] at hq
  have hi:=qYr kl [(gPt (gRg rg i).2 k).1,(gPt (gRg rg i).2 k).2]
  have ih:=qPb mk s rg i hi0 hb M2 Q d (k+1) (zK kl [(gPt (gRg rg i).2 k).1,(gPt (gRg rg i).2 k).2]) (qU kl ml [(gPt (gRg rg i).2 k).1,(gPt (gRg rg i).2 k).2] (orV (zG kl ml [(gPt (gRg rg i).2 k).1,(gPt (gRg rg i).2 k).2]) mk)) (by omega) (xK kl ml _ _ hl) hq
  refine FOk.rnd (qT hm 60 ((zTd kl ml mk s rg i k M2 (d+1) _ _).mpr ⟨?_⟩))
  rw[qD,if_pos (by omega),qK _ (by omega),qEv kl ml _ _ hl,qNr kl ml _ _ _ hl]
  repeat' (first | refine And.intro (fun _=>by omega) ?_ | refine And.intro ?_ ?_)
  all_goals exact ih
theorem qNx(kl:List (List Int))(ml:List Int)(hl:ml.length=kl.length)(rows u:Int)(rg:List (Int×List Pt))(i:Nat)(hi0:i<rg.length)(hb:(gRg rg i).2.length≤4000000000000)(h0:0≤rows)(hru:rows≤u)(hu:u≤1000000)(Q:SV→List HO→Prop):∀(d:Nat) (s:Int),0≤s→s+d=u-rows+1→(qFm kl ml rows u (gRg rg i).2 d s=none→Q (.tup [.v (.int .i64 0),.v (.bool false)]) [.mp true [.i64,.i64] kl (.ints .u64 ml),.ext false (.s false 2 rg.length (cRg rg))])→(∀ s',qFm kl ml rows u (gRg rg i).2 d s=some s'→Q (.tup [.v (.int .i64 s'),.v (.bool true)]) [.mp true [.i64,.i64] (xU (yL rows s') kl ml (gRg rg i).2).1 (.ints .u64 (xU (yL rows s') kl ml (gRg rg i).2).2),.ext false (.s false 2 rg.length (cRg rg))]) →
  zX Tryz.prog 2 Tryz.f44 Q (.rnd [0,0,1,0,1] (d+1)::[.blk 0,.at [1,1]]) ((St.mk [(8,SV.v (qA s)),(4,SV.p 2 0),(3,SV.p 3 0),(2,SV.v (qA u))] [HO.mp true [IntKind.i64,IntKind.i64] kl (Mc.ints IntKind.u64 ml),HO.ext false (qB.s false 2 rg.length (cRg rg)),HO.cells [SV.v (qA rows),SV.x 1 [(2,i,1)]] 50,HO.cells [SV.m 0] 93]))
 | 0,s,hs,hd,hq0,hq1=>by
  refine FOk.rnd (qT hm 60 ((zNv kl ml rows u rg i s 0 _ _).mpr ⟨?_⟩))
  rw[qD,if_pos hru,qD,zE (u-rows) (by omega),if_neg (by omega)]
  exact hq0 rfl
 | d+1,s,hs,hd,hq0,hq1=>by
  refine FOk.rnd (qT hm 60 ((zNv kl ml rows u rg i s (d+1) _ _).mpr ⟨?_⟩))
  rw[qD,if_pos hru,qD,zE (u-rows) (by omega),if_pos (by omega),zE (s+1) (by omega)]
  refine aI (aI (aI (zOm rg i hi0 hb ?_)))
  show bif decide ((0:Int)≤zB (tkB kl ml (yL rows s)) 0 (gRg rg i).2) then _ else _
  rw[jC]
  refine qJ (fun h=>?_) (fun h=>?_)
  ·exact qNx kl ml hl rows u rg i hi0 hb h0 hru hu Q d (s+1) (by omega) (by omega) (fun e=>hq0 (by rw[qFm,if_pos h]; exact e)) (fun s' e=>hq1 s' (by rw[qFm,if_pos h]; exact e))
  ·have e:=hq1 s (by rw[qFm,if_neg (by rw[h]; exact Bool.false_ne_true)])
   refine And.intro (fun _=>hi0) ?_
   exact FOk.loop ((gRg rg i).2.length+1) (by kernel_rfl) (qPb (yL rows s) s rg i hi0 hb (d+1) Q (gRg rg i).2.length 0 kl ml (by omega) hl e)
theorem zVw:Tryz.f44.body.isSome=true:=by kernel_rfl
theorem zVk(rows u:Int)(i:Nat):Nat.ble ([.m 0,.agg [.v (.int .i64 rows),.x 1 [(2,i,1)]],.v (.int .i64 u)]:List SV).length Tryz.f44.ntmps=true:=by kernel_rfl
theorem zDp(kl:List (List Int))(ml:List Int)(hl:ml.length=kl.length)(rows u:Int)(rg:List (Int×List Pt))(i:Nat)(hi0:i<rg.length)(hb:(gRg rg i).2.length≤4000000000000)(h0:0≤rows)(hu:u≤1000000)(Q:SV→List HO→Prop)(hq0:qAu kl ml rows u (gRg rg i).2=none→Q (.tup [.v (.int .i64 0),.v (.bool false)]) [.mp true [.i64,.i64] kl (.ints .u64 ml),.ext false (.s false 2 rg.length (cRg rg))])(hq1:∀ s,qAu kl ml rows u (gRg rg i).2=some s→Q (.tup [.v (.int .i64 s),.v (.bool true)]) [.mp true [.i64,.i64] (xU (yL rows s) kl ml (gRg rg i).2).1 (.ints .u64 (xU (yL rows s) kl ml (gRg rg i).2).2),.ext false (.s false 2 rg.length (cRg rg))]):zS Tryz.prog 2 44 [.m 0,.agg [.v (.int .i64 rows),.x 1 [(2,i,1)]],.v (.int .i64 u)] [.mp true [.i64,.i64] kl (.ints .u64 ml),.ext false (.s false 2 rg.length (cRg rg))] Q:=by
 refine qL Tryz.func44 zVw ?_ ?_
 ·exact zVk rows u i
 refine qT hm 60 ((zVx kl ml rows u rg i _ _).mpr ⟨?_⟩)
 by_cases hru:rows≤u
 ·rw[qAu,if_pos hru] at hq0
  have hq1':∀ s,qFm kl ml rows u (gRg rg i).2 (u-rows+1).toNat 0=some s→Q (.tup [.v (.int .i64 s),.v (.bool true)]) [.mp true [.i64,.i64] (xU (yL rows s) kl ml (gRg rg i).2).1 (.ints .u64 (xU (yL rows s) kl ml (gRg rg i).2).2),.ext false (.s false 2 rg.length (cRg rg))]:=fun s e=>hq1 s (by rw[qAu,if_pos hru]; exact e)
  exact FOk.loop ((u-rows+1).toNat+1) (by kernel_rfl) (qNx kl ml hl rows u rg i hi0 hb h0 hru hu Q (u-rows+1).toNat 0 (by omega) (by omega) hq0 hq1')
 ·rw[qAu,if_neg hru] at hq0
  refine FOk.loop 1 (by kernel_rfl) (FOk.rnd (qT hm 60 ((zNv kl ml rows u rg i 0 0 _ _).mpr ⟨?_⟩)))
  rw[qD,if_neg hru]
  exact hq0 rfl
noncomputable def zMz:List SV→List HO→Option ((SV→List HO→Prop)→Prop)
 | [.m 0,.agg [.v (.int .i64 rows),.x 1 [(2,i,1)]],.v (.int .i64 u)],[.mp true [.i64,.i64] kl (.ints .u64 ml),.ext false (.s false 2 n c)]=>some fun Q=>lPc kl ml rows u n c i (fun rg=>Q (.tup [.v (.int .i64 0),.v (.bool false)]) [.mp true [.i64,.i64] kl (.ints .u64 ml),.ext false (.s false 2 rg.length (cRg rg))]) (fun rg s=>Q (.tup [.v (.int .i64 s),.v (.bool true)]) [.mp true [.i64,.i64] (xU (yL rows s) kl ml (gRg rg i).2).1 (.ints .u64 (xU (yL rows s) kl ml (gRg rg i).2).2),.ext false (.s false 2 rg.length (cRg rg))])
 | _,_=>none
theorem zHc(args:List SV)(h:List HO)(tr:(SV→List HO→Prop)→Prop)(Q:SV→List HO→Prop)(hc:zMz args h=some tr)(ht:tr Q):zS Tryz.prog h.length 44 args h Q:=by
 unfold zMz at hc
 split at hc
 ·simp only[sI] at hc
  subst hc
  obtain⟨rg,rfl,he,hi,hb,hl,h0,hu,hq0,hq1⟩:=ht.h
  exact qI.ac (zDp _ _ hl _ _ rg _ hi hb h0 hu Q hq0 hq1) ⟨HE.refl _,⟨rfl,rfl,rfl,rfl,he⟩,trivial⟩
 ·cases hc
noncomputable def zJp:Con Tryz.prog:=zRu.addW 44 zMz zHc
end Go.Proofs.YtlmjdcbhpffanaaGreat
/- A nil slice in a variable, told as an empty own row. -/
namespace Go.Sx
open Go.RowKit
theorem qQe(e:Env)(v:Value):∀(l:List SV) (j:Nat) (s:SV),l[j]?=some (.v v)→den e s=v→qN e (l.set j s)=qN e l
 | [],j,s,h,_=>by cases h
 | x::r,0,s,h,hs=>by
  simp only[List.getElem?_cons_zero,sI] at h
  subst h
  simp only[List.set,qN,den,hs]
 | x::r,j+1,s,h,hs=>by
  simp only[List.getElem?_cons_succ] at h
  simp only[List.set,qN,qQe e v r j s h hs]
theorem FOk.nilC{P:Program}{m:Nat}{fn:Func}{Q:SV→List HO→Prop}{its:List It}{tm:List (Nat×SV)}{h:List HO}(i j:Nat)(T1:TypeId)(sz:Nat){T0:TypeId}{cs:List SV}(hi:h[i]?=some (.cells cs T0))(hj:cs[j]?=some (.v (.slice none 0 0)))(hx:zX P m fn Q its ⟨tm,(h++[HO.rowc T1 sz 0 (.lit 1 [])]).set i (.cells (cs.set j (.o h.length)) T0)⟩):zX P m fn Q its ⟨tm,h⟩:=by
 intro F hF w0 hw0 e a w S T0'
 have hlt:=(List.getElem?_eq_some_iff.1 hi).1
 have S2:=S.newRowc hF (w':=w) T1 sz 0 (.lit 1 []) (.slice none 0 0) (fun _=>⟨[],World.ownsRow_nil w 0 T1 sz,fun u hu=>(by cases hu),fun k hk=>by omega⟩) (fun b hb=>by cases hb) ⟨rfl,rfl,rfl,Nat.le_refl _,fun _ _ _=>rfl⟩
 have hag:=zO e h.length (.slice none 0 0)
 have hrow:(e.setR h.length (.slice none 0 0)).row h.length=.slice none 0 0:=by simp [Env.setR]
 have hl:(h++[HO.rowc T1 sz 0 (.lit 1 [])]).length=h.length+1:=by simp
 have S3:=S2.conv hF (h':=(h++[HO.rowc T1 sz 0 (.lit 1 [])]).set i (.cells (cs.set j (.o h.length)) T0)) (by simp) (fun k x' hx'=>by
  by_cases hki:k=i
  ·subst hki
   have hlt2:k<(h++[HO.rowc T1 sz 0 (.lit 1 [])]).length:=by rw[hl]; omega
   rw[List.getElem?_set_self hlt2] at hx'
   simp only[sI] at hx'
   subst hx'
   refine⟨HO.cells cs T0,by rw[List.getElem?_append_left hlt]; exact hi,rfl,?_,?_⟩
   ·intro hs
    simp only[HO.sat] at hs ⊢
    rw[qQe _ (.slice none 0 0) cs j (.o h.length) hj (by simp only[den,hrow])]
    exact hs
   ·intro hs
    have hs':wsL (h++[HO.rowc T1 sz 0 (.lit 1 [])]).length cs:=hs
    show wsL (h++[HO.rowc T1 sz 0 (.lit 1 [])]).length (cs.set j (.o h.length))
    rw[yP] at hs' ⊢
    intro y hy
    rcases List.mem_or_eq_of_mem_set hy with hy | rfl
    ·exact hs' y hy
    ·show h.length<_
     rw[hl]; omega
  ·exact⟨x',wK hki hx',rfl,fun hs=>hs,fun hs=>hs⟩)
 refine hx F hF w0 hw0 _ a w S3 ⟨T0'.size,T0'.defers,fun t s hs=>?_,fun t s hs=>?_⟩
 ·rw[T0'.get t s hs,jJ hag s (T0'.wsc t s hs)]
 ·show ws ((h++[HO.rowc T1 sz 0 (.lit 1 [])]).set i (HO.cells (cs.set j (.o h.length)) T0)).length s
  rw[List.length_set,hl]
  exact yO (Nat.le_succ _) s (T0'.wsc t s hs)
end Go.Sx
/- Layout: plain. -/
namespace Go.Pl
open Go.Sx
noncomputable def tC(l:List (List Nat)):Nat→Nat×(Nat→Nat→qB):=fun q=>((gT l q).length,cE (gT l q))
theorem qMj(l:List (List Nat))(k q:Nat)(x:List Nat)(h:k<l.length):gT (l.set k x) q=if q=k then x else gT l q:=by
 simp only[gT,List.getD_eq_getElem?_getD,List.getElem?_set]
 by_cases hk:k=q
 ·subst hk; rw[if_pos rfl,if_pos h,if_pos rfl]; rfl
 ·rw[if_neg hk,if_neg (fun hh=>hk hh.symm)]
theorem zPg{l:List (List Nat)}{k:Nat}(h:k<l.length)(x:List Nat){c:Nat→Nat→qB}(hc:c=cE x):qGf (tC l) k x.length c=tC (l.set k x):=by
 subst hc
 funext q
 by_cases hq:q=k
 ·subst hq; rw[qQv,tC,qMj l q q x h,if_pos rfl]
 ·rw[qQo _ _ _ _ hq,tC,tC,qMj l k q x h,if_neg hq]
theorem qEn{l:List (List Nat)}{k:Nat}(h:k<l.length)(x:List Nat):qGf (tC l) k x.length (Ct.fn (cE x)).at=tC (l.set k x):=zPg h x rfl
theorem qWe(n q:Nat):gT (List.replicate n []) q=[]:=by
 rw[gT,List.getD_eq_getElem?_getD,List.getElem?_replicate]
 split <;> rfl
theorem qWc(n:Nat):tC (List.replicate n [])=fun _=>(0,cE []):=by
 funext q
 rw[tC,qWe]; rfl
theorem qAh{l:List (List Nat)}{k:Nat}{u:Int}{r v:Nat}(hk:k<l.length)(h:∀ q,((gT l q).length:Int)≤u)(hr:(r:Int)+1≤u):∀ q,((gT (l.set k (zJ (gT l k) r v)) q).length:Int)≤u:=by
 intro q
 rw[qMj l k q _ hk]
 by_cases hq:q=k
 ·rw[if_pos hq,qUv]
  have:=h k
  omega
 ·rw[if_neg hq]; exact h q
def xW(u:Int):List (Int×List Nat)→List (List Nat)→Option (List (List Nat))
 | t::r,lF=>if u<(t.2.length:Int) then none else xW u r (lF.set t.1.toNat t.2)
 | [],lF=>some lF
def qAv(s:Int):List Pt→List (List Nat)→List (List Nat)→List (List Nat)×List (List Nat)
 | x::t,lF,lA=>if x.kd=2 then qAv s t (lF.set x.co.toNat (zJ (gT lF x.co.toNat) (s+x.of).toNat x.v)) lA else qAv s t lF (lA.set x.co.toNat (zJ (gT lA x.co.toNat) (s+x.of).toNat x.v))
 | [],lF,lA=>(lF,lA)
def yQ(u:Int):List (Int×List Pt)→List (List Int)→List Int→List (List Nat)→List (List Nat)→List Int→Option (List (List Nat)×List (List Nat)×List Int)
 | r::t,kl,ml,lF,lA,ss=>match qAu kl ml r.1 u r.2 with
  | none=>none
  | some s=>yQ u t (xU (yL r.1 s) kl ml r.2).1 (xU (yL r.1 s) kl ml r.2).2 (qAv s r.2 lF lA).1 (qAv s r.2 lF lA).2 (ss++[s])
 | [],_,_,lF,lA,ss=>some (lF,lA,ss)
def xF(ss:List Int)(x:Int×Int×Int):Int×Int:=(x.2.1,if 0≤x.1 then x.2.2+gI ss x.1.toNat else x.2.2)
def yR(ss:List Int)(l:List ((Int×Int×Int)×(Int×Int×Int))):List (Int×Int×Int×Int):=l.map fun x=>((xF ss x.1).1,(xF ss x.1).2,(xF ss x.2).1,(xF ss x.2).2)
def qFd:Sht:=⟨[],[],[],[]⟩
def qZ(c:Cir)(k:Int)(p:Pln):(Sht×List Int)×Int :=
 if yT c k p≠0 then((qFd,[]),yT c k p) else match xW (usN k) p.tb (List.replicate c.fx.toNat []) with
  | none=>((qFd,[]),141)
  | some lF=>match yQ (usN k) p.rg [] [] lF (List.replicate c.ad.toNat []) [] with
   | none=>((qFd,[]),141)
   | some z=>((⟨z.1,z.2.1,p.is,yR z.2.2 p.lk⟩,z.2.2),0)
/-! ### what a right plan has -/
theorem zZ{b x:Bool}:(bif b then false else x)=true↔b=false∧x=true:=by cases b <;> simp
theorem qHp{b x:Bool}:(bif b then x else false)=true↔b=true∧x=true:=by cases b <;> simp
theorem qUn(fx:Int):∀(l:List (Int×List Nat)) (met:List (List Int)),qNp fx met l=true→∀ t∈l,0≤t.1∧t.1<fx
 | [],_,_,t,ht=>by cases ht
 | x::r,met,h,t,ht=>by
  rw[qNp,zZ,zZ,zZ] at h
  obtain⟨_,h1,h2,h3⟩:=h
  have h1:=of_decide_eq_false h1
  have h2:=of_decide_eq_false h2
  rcases List.mem_cons.1 ht with rfl | ht
  ·omega
  ·exact qUn fx r _ h3 t ht
structure ptR (c:Cir) (rows:Int) (x:Pt):Prop where
 k:(x.kd=2∧x.co<c.fx)∨(x.kd=3∧x.co<c.ad)
 c0:0≤x.co
 o0:0≤x.of
 o1:x.of<rows
theorem zBp{c:Cir}{p:Pln}{rows:Int}{x:Pt}(h:qGm c p rows x.1 x.2 x.3=true):ptR c rows x:=by
 rw[qGm,zZ,zZ,zZ,zZ,zZ] at h
 obtain⟨h1,h2,h3,h4,h5,_⟩:=h
 have h2:=of_decide_eq_false h2
 have h3:=of_decide_eq_false h3
 have h4:=of_decide_eq_false h4
 have h5:=of_decide_eq_false h5
 refine⟨?_,by omega,by omega,by omega⟩
 by_cases k2:x.kd=2
 ·rw[k2] at h3
  refine .inl ⟨k2,?_⟩
  simp [zG,qU] at h3
  omega
 ·by_cases k3:x.kd=3
  ·rw[k3] at h3
   refine .inr ⟨k3,?_⟩
   simp [zG,qU] at h3
   omega
  ·simp [jY,k2,k3] at h1
theorem qTk{c:Cir}{p:Pln}{rows:Int}:∀(l:List Pt) (met:List (List Int)),qXr c p rows met l=true→∀ x∈l,ptR c rows x
 | [],_,_,x,hx=>by cases hx
 | y::t,met,h,x,hx=>by
  rw[qXr,zZ,zZ] at h
  obtain⟨_,h1,h2⟩:=h
  rcases List.mem_cons.1 hx with rfl | hx
  ·exact zBp (by simpa using h1)
  ·exact qTk t _ h2 x hx
theorem qLx{kl:List (List Int)}{ml:List Int}{rows u:Int}{ps:List Pt}:∀(d:Nat) (s0 s:Int),qFm kl ml rows u ps d s0=some s→s0≤s∧s<s0+d
 | 0,s0,s,h=>by cases h
 | d+1,s0,s,h=>by
  rw[qFm] at h
  split at h
  ·have:=qLx d (s0+1) s h
   omega
  ·simp only[sI] at h
   omega
theorem qAr{kl:List (List Int)}{ml:List Int}{rows u:Int}{ps:List Pt}{s:Int}(h:qAu kl ml rows u ps=some s):0≤s∧s+rows≤u:=by
 rw[qAu] at h
 split at h
 ·have:=qLx _ _ _ h
  omega
 ·cases h
theorem qEg(s:Int):∀(ps:List Pt) (lF lA:List (List Nat)),(qAv s ps lF lA).1.length=lF.length∧(qAv s ps lF lA).2.length=lA.length
 | [],_,_=>⟨rfl,rfl⟩
 | x::t,lF,lA=>by
  rw[qAv]
  split
  ·have:=qEg s t (lF.set x.co.toNat (zJ (gT lF x.co.toNat) (s+x.of).toNat x.v)) lA
   rw[List.length_set] at this
   exact this
  ·have:=qEg s t lF (lA.set x.co.toNat (zJ (gT lA x.co.toNat) (s+x.of).toNat x.v))
   rw[List.length_set] at this
   exact this
theorem qHj{c:Cir}{rows u s:Int}(h0:0≤s)(hu:s+rows≤u):∀(ps:List Pt) (lF lA:List (List Nat)),(∀ x∈ps,ptR c rows x)→lF.length=c.fx.toNat→lA.length=c.ad.toNat→(∀ q,((gT lF q).length:Int)≤u)→(∀ q,((gT lA q).length:Int)≤u)→(∀ q,((gT (qAv s ps lF lA).1 q).length:Int)≤u)∧(∀ q,((gT (qAv s ps lF lA).2 q).length:Int)≤u)
 | [],_,_,_,_,_,h3,h4=>⟨h3,h4⟩
 | x::t,lF,lA,h,h1,h2,h3,h4=>by
  have hx:=h x List.mem_cons_self
  have ht:=fun y hy=>h y (List.mem_cons_of_mem _ hy)
  have a1:=hx.c0
  have a2:=hx.o0
  have a3:=hx.o1
  rw[qAv]
  rcases hx.k with ⟨k2,kc⟩ | ⟨k3,kc⟩
  ·rw[if_pos k2]
   exact qHj h0 hu t _ _ ht (by rw[List.length_set]; exact h1) h2 (qAh (by omega) h3 (by omega)) h4
  ·rw[if_neg (by omega)]
   exact qHj h0 hu t _ _ ht h1 (by rw[List.length_set]; exact h2) h3 (qAh (by omega) h4 (by omega))
theorem qIo{u:Int}:∀(rs:List (Int×List Pt)) (kl:List (List Int)) (ml:List Int) (lF lA:List (List Nat)) (ss:List Int) (z:List (List Nat)×List (List Nat)×List Int),yQ u rs kl ml lF lA ss=some z→(∀ s∈ss,0≤s∧s≤u)→(∀ r∈rs,1≤r.1)→z.2.2.length=ss.length+rs.length∧(∀ s∈z.2.2,0≤s∧s≤u)∧∀ r∈rs,r.1≤u
 | [],kl,ml,lF,lA,ss,z,h,hs,_=>by
  simp only[yQ,sI] at h
  subst h
  exact⟨rfl,hs,fun r hr=>by cases hr⟩
 | r::t,kl,ml,lF,lA,ss,z,h,hs,hr=>by
  rw[yQ] at h
  cases hp:qAu kl ml r.1 u r.2 with
  | none=>rw[hp] at h; cases h
  | some s =>
   rw[hp] at h
   have h1:=qAr hp
   have hr1:=hr r List.mem_cons_self
   obtain⟨a1,a2,a3⟩:=qIo t _ _ _ _ _ z h (fun x hx=>by
    rcases List.mem_append.1 hx with hx | hx
    ·exact hs x hx
    ·rw[List.mem_singleton] at hx; omega) (fun x hx=>hr x (List.mem_cons_of_mem _ hx))
   refine⟨by rw[a1,List.length_append,List.length_singleton,List.length_cons]; omega,a2,fun x hx=>?_⟩
   rcases List.mem_cons.1 hx with rfl | hx
   ·omega
   ·exact a3 x hx
theorem zJd{l:List Int}{u:Int}(h:∀ s∈l,0≤s∧s≤u)(hu:0≤u)(k:Nat):0≤gI l k∧gI l k≤u:=by
 rw[gI,List.getD_eq_getElem?_getD]
 rcases Nat.lt_or_ge k l.length with hk | hk
 ·rw[List.getElem?_eq_getElem hk]; exact h _ (List.getElem_mem hk)
 ·rw[List.getElem?_eq_none hk]; exact⟨Int.le_refl _,hu⟩
theorem qAz{l:List (Int×Int×Int×Int)}{k:Nat}(a b x y:Int)(h:l.length=k):IsC (k+1) 4 (Ct.app k (.fn (cP l)) (.lit 4 [.v (.int .i64 a),.v (.int .i64 b),.v (.int .i64 x),.v (.int .i64 y)])).at (Ct.fn (cP (l++[(a,b,x,y)]))).at:=by
 subst h
 exact xQ zIx dP 4 l (a,b,x,y) _ fun j hj=>by
  match j,hj with
  | 0,_=>rfl
  | 1,_=>rfl
  | 2,_=>rfl
  | 3,_=>rfl
theorem qKp{l:List ((Int×Int×Int)×(Int×Int×Int))}{k:Nat}(h:k<l.length):l.take (k+1)=l.take k++[gLk l k]:=by
 rw[List.take_add_one,gLk,List.getD_eq_getElem?_getD,List.getElem?_eq_getElem h]; rfl
structure rgR (c:Cir) (r:Int×List Pt):Prop where
 w:1≤r.1
 n:r.2.length≤64
 x:∀ x∈r.2,ptR c r.1 x
theorem zBm{c:Cir}{p:Pln}{r:Int×List Pt}(h:qAm c p r=true):rgR c r:=by
 rw[qAm,zZ,zZ] at h
 obtain⟨h1,h2,h3⟩:=h
 have h1:=of_decide_eq_false h1
 have h2:=of_decide_eq_false h2
 exact⟨by omega,by omega,qTk r.2 [] h3⟩
structure enR (c:Cir) (p:Pln) (u:Int) (x:Int×Int×Int):Prop where
 r0 : -1≤x.1
 r1:x.1<(p.rg.length:Int)
 c0:0≤x.2.1
 c1:x.2.1<(c.eqs.length:Int)
 o0:0≤x.2.2
 o1:x.1<0→x.2.2<u
 o2:0≤x.1→x.2.2<(gRg p.rg x.1.toNat).1
theorem qPj{c:Cir}{p:Pln}{u:Int}{x:Int×Int×Int}(h:wF c p u x.1 x.2.1 x.2.2=true):enR c p u x:=by
 rw[wF,zZ,zZ,zZ,zZ,zZ] at h
 obtain⟨h1,h2,h3,h4,h5,h6⟩:=h
 have h1:=of_decide_eq_false h1
 have h2:=of_decide_eq_false h2
 have h3:=of_decide_eq_false h3
 have h4:=of_decide_eq_false h4
 have h5:=of_decide_eq_false h5
 refine⟨by omega,by omega,by omega,by omega,by omega,fun hn=>?_,fun hn=>?_⟩
 ·rw[decide_eq_true hn,cond_true] at h6
  exact of_decide_eq_true h6
 ·rw[decide_eq_false (by omega),cond_false,qHp] at h6
  exact of_decide_eq_true h6.2
structure plR (c:Cir) (p:Pln) (u:Int):Prop where
 nr:p.rg.length≤64
 nl:p.lk.length≤256
 t:∀ t∈p.tb,0≤t.1∧t.1<c.fx
 i:(p.is.length:Int)=c.ins
 r:∀ r∈p.rg,rgR c r
 l:∀ x∈p.lk,enR c p u x.1∧enR c p u x.2
 iu:∀ x∈p.is,(x.length:Int)≤u
theorem qFy{c:Cir}{p:Pln}{u:Int}(h:wB c p u=true):plR c p u:=by
 rw[wB,qHp,qHp,qHp,qHp,zZ,zZ] at h
 obtain⟨h1,h2,h3,h4,h5,h6,h7⟩:=h
 refine⟨by have:=of_decide_eq_true h1; omega,by have:=of_decide_eq_true h2; omega,qUn _ _ _ h3,by simpa using h4,fun r hr=>?_,fun x hx=>?_,fun x hx=>?_⟩
 ·have:=List.any_eq_false.1 h6 r hr
  exact zBm (by simpa[rgN] using this)
 ·have h8:p.lk.any (lkB c p u)=false:=by simpa using h7
  have:=List.any_eq_false.1 h8 x hx
  rw[lkB] at this
  cases ha:wF c p u x.1.1 x.1.2.1 x.1.2.2 with
  | false=>rw[ha] at this; exact absurd rfl this
  | true =>
   rw[ha] at this
   cases hb:wF c p u x.2.1 x.2.2.1 x.2.2.2 with
   | false=>rw[hb] at this; exact absurd rfl this
   | true=>exact⟨qPj ha,qPj hb⟩
 ·have:=List.any_eq_false.1 h5 x hx
  simp [qBe] at this
  omega
theorem zIt{k:Int}(h:k≤5):0≤usN k∧usN k≤28:=by
 rw[usN]
 split
 ·omega
 ·have:k=2∨k=3∨k=4∨k=5:=by omega
  rcases this with rfl | rfl | rfl | rfl <;> decide
theorem qKe{c:Cir}(h:wM c=0):qIs c=true:=(zAq (zBb h).2).1
theorem qJq{u:Int}:∀(ts:List (Int×List Nat)) (lF z:List (List Nat)),xW u ts lF=some z→(∀ q,((gT lF q).length:Int)≤u)→∀ q,((gT z q).length:Int)≤u
 | [],lF,z,h,hc=>by
  simp only[xW,sI] at h
  subst h
  exact hc
 | t::r,lF,z,h,hc=>by
  rw[xW] at h
  split at h
  ·cases h
  ·rename_i hu
   refine qJq r _ z h fun q=>?_
   rcases Nat.lt_or_ge t.1.toNat lF.length with hk | hk
   ·rw[qMj lF _ q _ hk]
    split
    ·omega
    ·exact hc q
   ·rw[List.set_eq_of_length_le hk]; exact hc q
theorem qAf(n:Nat){u:Int}(hu:0≤u)(q:Nat):((gT (List.replicate n []) q).length:Int)≤u:=by rw[qWe]; exact hu
structure lLy (fx ad ins k:Int) (n0 n1 n2 n3 m0 m1 m2 m3:Nat) (c0 c1 c2 c3 d0 d1 d2 d3:Nat→Nat→qB) (kE:Int→Prop) (kS:Sht→List Int→Prop):Prop where
 h:lSh fx ad ins n0 n1 n2 n3 m0 m1 m2 m3 c0 c1 c2 c3 d0 d1 d2 d3 fun c p=>((qZ c k p).2≠0→kE (qZ c k p).2)∧((qZ c k p).2=0→kS (qZ c k p).1.1 (qZ c k p).1.2)
end Go.Pl
namespace Go.Proofs.YtlmjdcbhpffanaaGreat
open Go.Sx Go.Pl
set_option linter.unusedVariables false
set_option maxRecDepth 100000
noncomputable def qLt:Con Tryz.prog:=zJp.setW 46
end Go.Proofs.YtlmjdcbhpffanaaGreat
/- Layout: puts. -/
namespace Go.Proofs.YtlmjdcbhpffanaaGreat
open Go.Sx Go.Pl
set_option linter.unusedVariables false
set_option maxRecDepth 100000
theorem zYk(c:Cir)(p:Pln)(k:Int)(gF gA:Nat→Nat×(Nat→Nat→qB))(nF nA:Nat)(u s:Int)(ls:List (List Nat))(kl:List (List Int))(ml ss:List Int)(l:List Nat)(cf n m ms i j M2 M:Nat)(K:List It→St→Prop)(R:SV→List HO→Prop):W (xwp Tryz.prog X qLt [] 60 (qO Tryz.f12 [] [⟨[0,1,0,1,1,1,1],[49,48,47,11,10,6,5,3],[]⟩,⟨[0,1,0,1,1,1,1,1],[64,63,62,11,10,6,5,3],[]⟩,⟨[0,1,0,1,1,1,1,1,1,1,1,1],[93,92,91,18,17,16,11,10,6,5,3],[]⟩,⟨[0,1,1,1,1,1,0,0,1,1,0,0,1,0,1,1,1,1,1,1,1,1,1],[114,113,112,21,93,92,91,18,17,16,11,10,6,5,3],[]⟩,⟨[0,1,0,1,1,1,1,1,1,1,1,1,1,1],[144,143,142,26,18,11,6,5,3],[]⟩]) [.ld (.o 9)] (.at [0,0,1,1,1,1,1,0,0,1,1,0,0,1,0,1,1,1,1,1,1,1,1,1]::.rnd [0,0,1,1,1,1,1,0,0,1,1,0,0,1,0,1,1,1,1,1,1,1,1,1] M::[.blk 6,.blk 5,.at [1,1,1,0,0,1,0,1,1,1,1,1,1,1,1,1],.rnd [0,0,1,0,1,1,1,1,1,1,1,1,1] M2,.blk 4,.at [1,1,1,1,1,1,1,1,1,1]]) (St.mk [(114,SV.v (qA (j:Int))),(113,SV.v (qA (↑(List.length (gRg p.1 i).2):Int))),(112,SV.x 0 [(2,i,1)]),(21,SV.v (qA s)),(93,SV.v (qA (↑i:Int))),(92,SV.v (qA (↑p.1.length:Int))),(91,SV.x 0 []),(18,SV.p 1 0),(17,SV.m 2),(16,SV.m 3),(11,SV.p 4 0),(10,SV.v (qA u)),(6,SV.p 5 0),(5,SV.p 6 0),(3,SV.p 7 0)] [HO.ext false (qB.s false 2 p.1.length (cRg p.1)),HO.cells [SV.o 8] 23,HO.mp true [IntKind.i64,IntKind.i64] kl (Mc.ints IntKind.u64 ml),HO.mp false [IntKind.i64] [[(2:Int)],[(3:Int)]] (Mc.svs [SV.o 9,SV.o 10]),HO.cells [SV.o 9,SV.o 10,SV.o 11,SV.o 12] 42,HO.cells [SV.v (Value.slice none 0 0),SV.v (Value.slice none 0 0),SV.v (Value.slice none 0 0),SV.v (Value.slice none 0 0)] 42,HO.cells [SV.x 0 [],SV.x 13 [],SV.x 14 [],SV.x 15 []] 33,HO.cells [SV.v (qA c.1),SV.v (qA c.2),SV.v (qA c.3),SV.x 16 [],SV.x 17 [],SV.x 18 [],SV.x 19 []] 27,HO.rowc 3 1 ms (Ct.fn (cI ss)),HO.tbl 67 53 4 nF gF (some (cf,20)),HO.tbl 67 53 4 nA gA none,HO.rowc 67 1 m (Ct.fn (cT ls)),HO.rowc 101 4 0 (Ct.lit 1 []),HO.ext false (qB.s false 2 p.2.length (cTa p.2)),HO.ext false (qB.s false 6 p.3.length (cLk p.3)),HO.ext false (qB.s false 1 p.4.length (cT p.4)),HO.ext false (qB.s false 7 c.4.length (cN c.4)),HO.ext false (qB.s false 1 c.5.length (cI c.5)),HO.ext false (qB.s false 2 c.6.length (cL c.6)),HO.ext false (qB.s false 2 c.7.length (cK c.7)),HO.rowc 53 4 n (Ct.fn (cE l))]) K R)=W (bif decide ((↑j:Int)<(↑(List.length (gRg p.1 i).2):Int)) then((∀ M:Mem,i<List.length p.1)∧(∀ M:Mem,(0:Int)≤(↑j:Int)∧(↑j:Int)<(↑(List.length (gRg p.1 i).2):Int))∧(∀ M:Mem,i<List.length p.1)∧(∀ M:Mem,j<List.length (gRg p.1 i).2)∧(∀ M:Mem,0+7≤7)∧(∀ M:Mem,(match decide ([(gPt (gRg p.1 i).2 j).1]=[(2:Int)]) with | true=>some (SV.o 9) | false=>match decide ([(gPt (gRg p.1 i).2 j).1]=[(3:Int)]) with | true=>some (SV.o 10) | false=>none)=some (SV.o 9))∧(∀ M:Mem,(0:Int)≤(gPt (gRg p.1 i).2 j).2∧(gPt (gRg p.1 i).2 j).2<(↑nF:Int))∧(∀ M:Mem,Int.toNat (gPt (gRg p.1 i).2 j).2<nF)∧(∀ M:Mem,Int.toNat (gPt (gRg p.1 i).2 j).2=cf)∧lSe n (cE l) (IntKind.wrap .i64 (s+(gPt (gRg p.1 i).2 j).3)) (eI (gPt (gRg p.1 i).2 j).4) (fun(l:List Nat) (v:Nat)=>(∀ M:Mem,(0:Int)≤(gPt (gRg p.1 i).2 j).2∧(gPt (gRg p.1 i).2 j).2<(↑nF:Int))∧(∀ M:Mem,Int.toNat (gPt (gRg p.1 i).2 j).2<nF)∧(∀ M:Mem,Int.toNat (gPt (gRg p.1 i).2 j).2=cf)∧K [It.rnd [0,0,1,1,1,1,1,0,0,1,1,0,0,1,0,1,1,1,1,1,1,1,1,1] M,It.blk 6,It.blk 5,It.at [1,1,1,0,0,1,0,1,1,1,1,1,1,1,1,1],It.rnd [0,0,1,0,1,1,1,1,1,1,1,1,1] M2,It.blk 4,It.at [1,1,1,1,1,1,1,1,1,1]] (St.mk [(114,SV.v (qA (IntKind.wrap .i64 ((↑j:Int)+(1:Int))))),(113,SV.v (qA (↑(List.length (gRg p.1 i).2):Int))),(112,SV.x 0 [(2,i,1)]),(21,SV.v (qA s)),(93,SV.v (qA (↑i:Int))),(92,SV.v (qA (↑p.1.length:Int))),(91,SV.x 0 []),(18,SV.p 1 0),(17,SV.m 2),(16,SV.m 3),(11,SV.p 4 0),(10,SV.v (qA u)),(6,SV.p 5 0),(5,SV.p 6 0),(3,SV.p 7 0)] [HO.ext false (qB.s false 2 p.1.length (cRg p.1)),HO.cells [SV.o 8] 23,HO.mp true [IntKind.i64,IntKind.i64] kl (Mc.ints IntKind.u64 ml),HO.mp false [IntKind.i64] [[(2:Int)],[(3:Int)]] (Mc.svs [SV.o 9,SV.o 10]),HO.cells [SV.o 9,SV.o 10,SV.o 11,SV.o 12] 42,HO.cells [SV.v (Value.slice none 0 0),SV.v (Value.slice none 0 0),SV.v (Value.slice none 0 0),SV.v (Value.slice none 0 0)] 42,HO.cells [SV.x 0 [],SV.x 13 [],SV.x 14 [],SV.x 15 []] 33,HO.cells [SV.v (qA c.1),SV.v (qA c.2),SV.v (qA c.3),SV.x 16 [],SV.x 17 [],SV.x 18 [],SV.x 19 []] 27,HO.rowc 3 1 ms (Ct.fn (cI ss)),HO.tbl 67 53 4 nF gF (some (Int.toNat (gPt (gRg p.1 i).2 j).2,20)),HO.tbl 67 53 4 nA gA none,HO.rowc 67 1 m (Ct.fn (cT ls)),HO.rowc 101 4 0 (Ct.lit 1 []),HO.ext false (qB.s false 2 p.2.length (cTa p.2)),HO.ext false (qB.s false 6 p.3.length (cLk p.3)),HO.ext false (qB.s false 1 p.4.length (cT p.4)),HO.ext false (qB.s false 7 c.4.length (cN c.4)),HO.ext false (qB.s false 1 c.5.length (cI c.5)),HO.ext false (qB.s false 2 c.6.length (cL c.6)),HO.ext false (qB.s false 2 c.7.length (cK c.7)),HO.rowc 53 4 (List.length (zJ l (Int.toNat (IntKind.wrap .i64 (s+(gPt (gRg p.1 i).2 j).3))) v)) (Ct.fn (cE (zJ l (Int.toNat (IntKind.wrap .i64 (s+(gPt (gRg p.1 i).2 j).3))) v)))])) fun(l:List Nat) (v:Nat)=>(∀ M:Mem,(0:Int)≤(gPt (gRg p.1 i).2 j).2∧(gPt (gRg p.1 i).2 j).2<(↑nF:Int))∧(∀ M:Mem,Int.toNat (gPt (gRg p.1 i).2 j).2<nF)∧(∀ M:Mem,Int.toNat (gPt (gRg p.1 i).2 j).2=cf)∧K [It.rnd [0,0,1,1,1,1,1,0,0,1,1,0,0,1,0,1,1,1,1,1,1,1,1,1] M,It.blk 6,It.blk 5,It.at [1,1,1,0,0,1,0,1,1,1,1,1,1,1,1,1],It.rnd [0,0,1,0,1,1,1,1,1,1,1,1,1] M2,It.blk 4,It.at [1,1,1,1,1,1,1,1,1,1]] (St.mk [(114,SV.v (qA (IntKind.wrap .i64 ((↑j:Int)+(1:Int))))),(113,SV.v (qA (↑(List.length (gRg p.1 i).2):Int))),(112,SV.x 0 [(2,i,1)]),(21,SV.v (qA s)),(93,SV.v (qA (↑i:Int))),(92,SV.v (qA (↑p.1.length:Int))),(91,SV.x 0 []),(18,SV.p 1 0),(17,SV.m 2),(16,SV.m 3),(11,SV.p 4 0),(10,SV.v (qA u)),(6,SV.p 5 0),(5,SV.p 6 0),(3,SV.p 7 0)] [HO.ext false (qB.s false 2 p.1.length (cRg p.1)),HO.cells [SV.o 8] 23,HO.mp true [IntKind.i64,IntKind.i64] kl (Mc.ints IntKind.u64 ml),HO.mp false [IntKind.i64] [[(2:Int)],[(3:Int)]] (Mc.svs [SV.o 9,SV.o 10]),HO.cells [SV.o 9,SV.o 10,SV.o 11,SV.o 12] 42,HO.cells [SV.v (Value.slice none 0 0),SV.v (Value.slice none 0 0),SV.v (Value.slice none 0 0),SV.v (Value.slice none 0 0)] 42,HO.cells [SV.x 0 [],SV.x 13 [],SV.x 14 [],SV.x 15 []] 33,HO.cells [SV.v (qA c.1),SV.v (qA c.2),SV.v (qA c.3),SV.x 16 [],SV.x 17 [],SV.x 18 [],SV.x 19 []] 27,HO.rowc 3 1 ms (Ct.fn (cI ss)),HO.tbl 67 53 4 nF gF (some (Int.toNat (gPt (gRg p.1 i).2 j).2,20)),HO.tbl 67 53 4 nA gA none,HO.rowc 67 1 m (Ct.fn (cT ls)),HO.rowc 101 4 0 (Ct.lit 1 []),HO.ext false (qB.s false 2 p.2.length (cTa p.2)),HO.ext false (qB.s false 6 p.3.length (cLk p.3)),HO.ext false (qB.s false 1 p.4.length (cT p.4)),HO.ext false (qB.s false 7 c.4.length (cN c.4)),HO.ext false (qB.s false 1 c.5.length (cI c.5)),HO.ext false (qB.s false 2 c.6.length (cL c.6)),HO.ext false (qB.s false 2 c.7.length (cK c.7)),HO.rowc 53 4 (List.length (zJ l (Int.toNat (IntKind.wrap .i64 (s+(gPt (gRg p.1 i).2 j).3))) v)) (Ct.fn (cE (zJ l (Int.toNat (IntKind.wrap .i64 (s+(gPt (gRg p.1 i).2 j).3))) v)))]))∧(∀ M:Mem,i<List.length p.1)∧(∀ M:Mem,(0:Int)≤(↑j:Int)∧(↑j:Int)<(↑(List.length (gRg p.1 i).2):Int))∧(∀ M:Mem,i<List.length p.1)∧(∀ M:Mem,j<List.length (gRg p.1 i).2)∧(∀ M:Mem,0+7≤7)∧(∀ M:Mem,(match decide ([(gPt (gRg p.1 i).2 j).1]=[(2:Int)]) with | true=>some (SV.o 9) | false=>match decide ([(gPt (gRg p.1 i).2 j).1]=[(3:Int)]) with | true=>some (SV.o 10) | false=>none)=some (SV.o 9))∧(∀ M:Mem,(0:Int)≤(gPt (gRg p.1 i).2 j).2∧(gPt (gRg p.1 i).2 j).2<(↑nF:Int))∧(∀ M:Mem,Int.toNat (gPt (gRg p.1 i).2 j).2<nF)∧(∀ M:Mem,Int.toNat (gPt (gRg p.1 i).2 j).2=cf)∧lSe n (cE l) (IntKind.wrap .i64 (s+(gPt (gRg p.1 i).2 j).3)) (eI (gPt (gRg p.1 i).2 j).4) (fun(l:List Nat) (v:Nat)=>(∀ M:Mem,(0:Int)≤(gPt (gRg p.1 i).2 j).2∧(gPt (gRg p.1 i).2 j).2<(↑nF:Int))∧(∀ M:Mem,Int.toNat (gPt (gRg p.1 i).2 j).2<nF)∧(∀ M:Mem,Int.toNat (gPt (gRg p.1 i).2 j).2=cf)∧K [It.rnd [0,0,1,1,1,1,1,0,0,1,1,0,0,1,0,1,1,1,1,1,1,1,1,1] M,It.blk 6,It.blk 5,It.at [1,1,1,0,0,1,0,1,1,1,1,1,1,1,1,1],It.rnd [0,0,1,0,1,1,1,1,1,1,1,1,1] M2,It.blk 4,It.at [1,1,1,1,1,1,1,1,1,1]] (St.mk [(114,SV.v (qA (IntKind.wrap .i64 ((↑j:Int)+(1:Int))))),(113,SV.v (qA (↑(List.length (gRg p.1 i).2):Int))),(112,SV.x 0 [(2,i,1)]),(21,SV.v (qA s)),(93,SV.v (qA (↑i:Int))),(92,SV.v (qA (↑p.1.length:Int))),(91,SV.x 0 []),(18,SV.p 1 0),(17,SV.m 2),(16,SV.m 3),(11,SV.p 4 0),(10,SV.v (qA u)),(6,SV.p 5 0),(5,SV.p 6 0),(3,SV.p 7 0)] [HO.ext false (qB.s false 2 p.1.length (cRg p.1)),HO.cells [SV.o 8] 23,HO.mp true [IntKind.i64,IntKind.i64] kl (Mc.ints IntKind.u64 ml),HO.mp false [IntKind.i64] [[(2:Int)],[(3:Int)]] (Mc.svs [SV.o 9,SV.o 10]),HO.cells [SV.o 9,SV.o 10,SV.o 11,SV.o 12] 42,HO.cells [SV.v (Value.slice none 0 0),SV.v (Value.slice none 0 0),SV.v (Value.slice none 0 0),SV.v (Value.slice none 0 0)] 42,HO.cells [SV.x 0 [],SV.x 13 [],SV.x 14 [],SV.x 15 []] 33,HO.cells [SV.v (qA c.1),SV.v (qA c.2),SV.v (qA c.3),SV.x 16 [],SV.x 17 [],SV.x 18 [],SV.x 19 []] 27,HO.rowc 3 1 ms (Ct.fn (cI ss)),HO.tbl 67 53 4 nF gF (some (Int.toNat (gPt (gRg p.1 i).2 j).2,20)),HO.tbl 67 53 4 nA gA none,HO.rowc 67 1 m (Ct.fn (cT ls)),HO.rowc 101 4 0 (Ct.lit 1 []),HO.ext false (qB.s false 2 p.2.length (cTa p.2)),HO.ext false (qB.s false 6 p.3.length (cLk p.3)),HO.ext false (qB.s false 1 p.4.length (cT p.4)),HO.ext false (qB.s false 7 c.4.length (cN c.4)),HO.ext false (qB.s false 1 c.5.length (cI c.5)),HO.ext false (qB.s false 2 c.6.length (cL c.6)),HO.ext false (qB.s false 2 c.7.length (cK c.7)),HO.rowc 53 4 (List.length (zJ l (Int.toNat (IntKind.wrap .i64 (s+(gPt (gRg p.1 i).2 j).3))) v)) (Ct.fn (cE (zJ l (Int.toNat (IntKind.wrap .i64 (s+(gPt (gRg p.1 i).2 j).3))) v)))])) fun(l:List Nat) (v:Nat)=>(∀ M:Mem,(0:Int)≤(gPt (gRg p.1 i).2 j).2∧(gPt (gRg p.1 i).2 j).2<(↑nF:Int))∧(∀ M:Mem,Int.toNat (gPt (gRg p.1 i).2 j).2<nF)∧(∀ M:Mem,Int.toNat (gPt (gRg p.1 i).2 j).2=cf)∧K [It.rnd [0,0,1,1,1,1,1,0,0,1,1,0,0,1,0,1,1,1,1,1,1,1,1,1] M,It.blk 6,It.blk 5,It.at [1,1,1,0,0,1,0,1,1,1,1,1,1,1,1,1],It.rnd [0,0,1,0,1,1,1,1,1,1,1,1,1] M2,It.blk 4,It.at [1,1,1,1,1,1,1,1,1,1]] (St.mk [(114,SV.v (qA (IntKind.wrap .i64 ((↑j:Int)+(1:Int))))),(113,SV.v (qA (↑(List.length (gRg p.1 i).2):Int))),(112,SV.x 0 [(2,i,1)]),(21,SV.v (qA s)),(93,SV.v (qA (↑i:Int))),(92,SV.v (qA (↑p.1.length:Int))),(91,SV.x 0 []),(18,SV.p 1 0),(17,SV.m 2),(16,SV.m 3),(11,SV.p 4 0),(10,SV.v (qA u)),(6,SV.p 5 0),(5,SV.p 6 0),(3,SV.p 7 0)] [HO.ext false (qB.s false 2 p.1.length (cRg p.1)),HO.cells [SV.o 8] 23,HO.mp true [IntKind.i64,IntKind.i64] kl (Mc.ints IntKind.u64 ml),HO.mp false [IntKind.i64] [[(2:Int)],[(3:Int)]] (Mc.svs [SV.o 9,SV.o 10]),HO.cells [SV.o 9,SV.o 10,SV.o 11,SV.o 12] 42,HO.cells [SV.v (Value.slice none 0 0),SV.v (Value.slice none 0 0),SV.v (Value.slice none 0 0),SV.v (Value.slice none 0 0)] 42,HO.cells [SV.x 0 [],SV.x 13 [],SV.x 14 [],SV.x 15 []] 33,HO.cells [SV.v (qA c.1),SV.v (qA c.2),SV.v (qA c.3),SV.x 16 [],SV.x 17 [],SV.x 18 [],SV.x 19 []] 27,HO.rowc 3 1 ms (Ct.fn (cI ss)),HO.tbl 67 53 4 nF gF (some (Int.toNat (gPt (gRg p.1 i).2 j).2,20)),HO.tbl 67 53 4 nA gA none,HO.rowc 67 1 m (Ct.fn (cT ls)),HO.rowc 101 4 0 (Ct.lit 1 []),HO.ext false (qB.s false 2 p.2.length (cTa p.2)),HO.ext false (qB.s false 6 p.3.length (cLk p.3)),HO.ext false (qB.s false 1 p.4.length (cT p.4)),HO.ext false (qB.s false 7 c.4.length (cN c.4)),HO.ext false (qB.s false 1 c.5.length (cI c.5)),HO.ext false (qB.s false 2 c.6.length (cL c.6)),HO.ext false (qB.s false 2 c.7.length (cK c.7)),HO.rowc 53 4 (List.length (zJ l (Int.toNat (IntKind.wrap .i64 (s+(gPt (gRg p.1 i).2 j).3))) v)) (Ct.fn (cE (zJ l (Int.toNat (IntKind.wrap .i64 (s+(gPt (gRg p.1 i).2 j).3))) v)))]) else K [It.rnd [0,0,1,0,1,1,1,1,1,1,1,1,1] M2,It.blk 4,It.at [1,1,1,1,1,1,1,1,1,1]] (St.mk [(93,SV.v (qA (IntKind.wrap .i64 ((↑i:Int)+(1:Int))))),(92,SV.v (qA (↑p.1.length:Int))),(91,SV.x 0 []),(18,SV.p 1 0),(17,SV.m 2),(16,SV.m 3),(11,SV.p 4 0),(10,SV.v (qA u)),(6,SV.p 5 0),(5,SV.p 6 0),(3,SV.p 7 0)] [HO.ext false (qB.s false 2 p.1.length (cRg p.1)),HO.cells [SV.o 8] 23,HO.mp true [IntKind.i64,IntKind.i64] kl (Mc.ints IntKind.u64 ml),HO.mp false [IntKind.i64] [[(2:Int)],[(3:Int)]] (Mc.svs [SV.o 9,SV.o 10]),HO.cells [SV.o 9,SV.o 10,SV.o 11,SV.o 12] 42,HO.cells [SV.v (Value.slice none 0 0),SV.v (Value.slice none 0 0),SV.v (Value.slice none 0 0),SV.v (Value.slice none 0 0)] 42,HO.cells [SV.x 0 [],SV.x 13 [],SV.x 14 [],SV.x 15 []] 33,HO.cells [SV.v (qA c.1),SV.v (qA c.2),SV.v (qA c.3),SV.x 16 [],SV.x 17 [],SV.x 18 [],SV.x 19 []] 27,HO.rowc 3 1 ms (Ct.fn (cI ss)),HO.tbl 67 53 4 nF gF (some (cf,20)),HO.tbl 67 53 4 nA gA none,HO.rowc 67 1 m (Ct.fn (cT ls)),HO.rowc 101 4 0 (Ct.lit 1 []),HO.ext false (qB.s false 2 p.2.length (cTa p.2)),HO.ext false (qB.s false 6 p.3.length (cLk p.3)),HO.ext false (qB.s false 1 p.4.length (cT p.4)),HO.ext false (qB.s false 7 c.4.length (cN c.4)),HO.ext false (qB.s false 1 c.5.length (cI c.5)),HO.ext false (qB.s false 2 c.6.length (cL c.6)),HO.ext false (qB.s false 2 c.7.length (cK c.7)),HO.rowc 53 4 n (Ct.fn (cE l))])):=by kernel_rfl
theorem zUg(c:Cir)(p:Pln)(k:Int)(gF gA:Nat→Nat×(Nat→Nat→qB))(nF nA:Nat)(u s:Int)(ls:List (List Nat))(kl:List (List Int))(ml ss:List Int)(l:List Nat)(cf n m ms i j M2 M:Nat)(K:List It→St→Prop)(R:SV→List HO→Prop):W (xwp Tryz.prog X qLt [] 60 (qO Tryz.f12 [] [⟨[0,1,0,1,1,1,1],[49,48,47,11,10,6,5,3],[]⟩,⟨[0,1,0,1,1,1,1,1],[64,63,62,11,10,6,5,3],[]⟩,⟨[0,1,0,1,1,1,1,1,1,1,1,1],[93,92,91,18,17,16,11,10,6,5,3],[]⟩,⟨[0,1,1,1,1,1,0,0,1,1,0,0,1,0,1,1,1,1,1,1,1,1,1],[114,113,112,21,93,92,91,18,17,16,11,10,6,5,3],[]⟩,⟨[0,1,0,1,1,1,1,1,1,1,1,1,1,1],[144,143,142,26,18,11,6,5,3],[]⟩]) [.ld (.o 10)] (.at [0,0,1,1,1,1,1,0,0,1,1,0,0,1,0,1,1,1,1,1,1,1,1,1]::.rnd [0,0,1,1,1,1,1,0,0,1,1,0,0,1,0,1,1,1,1,1,1,1,1,1] M::[.blk 6,.blk 5,.at [1,1,1,0,0,1,0,1,1,1,1,1,1,1,1,1],.rnd [0,0,1,0,1,1,1,1,1,1,1,1,1] M2,.blk 4,.at [1,1,1,1,1,1,1,1,1,1]]) (St.mk [(114,SV.v (qA (j:Int))),(113,SV.v (qA (↑(List.length (gRg p.1 i).2):Int))),(112,SV.x 0 [(2,i,1)]),(21,SV.v (qA s)),(93,SV.v (qA (↑i:Int))),(92,SV.v (qA (↑p.1.length:Int))),(91,SV.x 0 []),(18,SV.p 1 0),(17,SV.m 2),(16,SV.m 3),(11,SV.p 4 0),(10,SV.v (qA u)),(6,SV.p 5 0),(5,SV.p 6 0),(3,SV.p 7 0)] [HO.ext false (qB.s false 2 p.1.length (cRg p.1)),HO.cells [SV.o 8] 23,HO.mp true [IntKind.i64,IntKind.i64] kl (Mc.ints IntKind.u64 ml),HO.mp false [IntKind.i64] [[(2:Int)],[(3:Int)]] (Mc.svs [SV.o 9,SV.o 10]),HO.cells [SV.o 9,SV.o 10,SV.o 11,SV.o 12] 42,HO.cells [SV.v (Value.slice none 0 0),SV.v (Value.slice none 0 0),SV.v (Value.slice none 0 0),SV.v (Value.slice none 0 0)] 42,HO.cells [SV.x 0 [],SV.x 13 [],SV.x 14 [],SV.x 15 []] 33,HO.cells [SV.v (qA c.1),SV.v (qA c.2),SV.v (qA c.3),SV.x 16 [],SV.x 17 [],SV.x 18 [],SV.x 19 []] 27,HO.rowc 3 1 ms (Ct.fn (cI ss)),HO.tbl 67 53 4 nF gF none,HO.tbl 67 53 4 nA gA (some (cf,20)),HO.rowc 67 1 m (Ct.fn (cT ls)),HO.rowc 101 4 0 (Ct.lit 1 []),HO.ext false (qB.s false 2 p.2.length (cTa p.2)),HO.ext false (qB.s false 6 p.3.length (cLk p.3)),HO.ext false (qB.s false 1 p.4.length (cT p.4)),HO.ext false (qB.s false 7 c.4.length (cN c.4)),HO.ext false (qB.s false 1 c.5.length (cI c.5)),HO.ext false (qB.s false 2 c.6.length (cL c.6)),HO.ext false (qB.s false 2 c.7.length (cK c.7)),HO.rowc 53 4 n (Ct.fn (cE l))]) K R)=W (bif decide ((↑j:Int)<(↑(List.length (gRg p.1 i).2):Int)) then((∀ M:Mem,i<List.length p.1)∧(∀ M:Mem,(0:Int)≤(↑j:Int)∧(↑j:Int)<(↑(List.length (gRg p.1 i).2):Int))∧(∀ M:Mem,i<List.length p.1)∧(∀ M:Mem,j<List.length (gRg p.1 i).2)∧(∀ M:Mem,0+7≤7)∧(∀ M:Mem,(match decide ([(gPt (gRg p.1 i).2 j).1]=[(2:Int)]) with | true=>some (SV.o 9) | false=>match decide ([(gPt (gRg p.1 i).2 j).1]=[(3:Int)]) with | true=>some (SV.o 10) | false=>none)=some (SV.o 10))∧(∀ M:Mem,(0:Int)≤(gPt (gRg p.1 i).2 j).2∧(gPt (gRg p.1 i).2 j).2<(↑nA:Int))∧(∀ M:Mem,Int.toNat (gPt (gRg p.1 i).2 j).2<nA)∧(∀ M:Mem,Int.toNat (gPt (gRg p.1 i).2 j).2=cf)∧lSe n (cE l) (IntKind.wrap .i64 (s+(gPt (gRg p.1 i).2 j).3)) (eI (gPt (gRg p.1 i).2 j).4) (fun(l:List Nat) (v:Nat)=>(∀ M:Mem,(0:Int)≤(gPt (gRg p.1 i).2 j).2∧(gPt (gRg p.1 i).2 j).2<(↑nA:Int))∧(∀ M:Mem,Int.toNat (gPt (gRg p.1 i).2 j).2<nA)∧(∀ M:Mem,Int.toNat (gPt (gRg p.1 i).2 j).2=cf)∧K [It.rnd [0,0,1,1,1,1,1,0,0,1,1,0,0,1,0,1,1,1,1,1,1,1,1,1] M,It.blk 6,It.blk 5,It.at [1,1,1,0,0,1,0,1,1,1,1,1,1,1,1,1],It.rnd [0,0,1,0,1,1,1,1,1,1,1,1,1] M2,It.blk 4,It.at [1,1,1,1,1,1,1,1,1,1]] (St.mk [(114,SV.v (qA (IntKind.wrap .i64 ((↑j:Int)+(1:Int))))),(113,SV.v (qA (↑(List.length (gRg p.1 i).2):Int))),(112,SV.x 0 [(2,i,1)]),(21,SV.v (qA s)),(93,SV.v (qA (↑i:Int))),(92,SV.v (qA (↑p.1.length:Int))),(91,SV.x 0 []),(18,SV.p 1 0),(17,SV.m 2),(16,SV.m 3),(11,SV.p 4 0),(10,SV.v (qA u)),(6,SV.p 5 0),(5,SV.p 6 0),(3,SV.p 7 0)] [HO.ext false (qB.s false 2 p.1.length (cRg p.1)),HO.cells [SV.o 8] 23,HO.mp true [IntKind.i64,IntKind.i64] kl (Mc.ints IntKind.u64 ml),HO.mp false [IntKind.i64] [[(2:Int)],[(3:Int)]] (Mc.svs [SV.o 9,SV.o 10]),HO.cells [SV.o 9,SV.o 10,SV.o 11,SV.o 12] 42,HO.cells [SV.v (Value.slice none 0 0),SV.v (Value.slice none 0 0),SV.v (Value.slice none 0 0),SV.v (Value.slice none 0 0)] 42,HO.cells [SV.x 0 [],SV.x 13 [],SV.x 14 [],SV.x 15 []] 33,HO.cells [SV.v (qA c.1),SV.v (qA c.2),SV.v (qA c.3),SV.x 16 [],SV.x 17 [],SV.x 18 [],SV.x 19 []] 27,HO.rowc 3 1 ms (Ct.fn (cI ss)),HO.tbl 67 53 4 nF gF none,HO.tbl 67 53 4 nA gA (some (Int.toNat (gPt (gRg p.1 i).2 j).2,20)),HO.rowc 67 1 m (Ct.fn (cT ls)),HO.rowc 101 4 0 (Ct.lit 1 []),HO.ext false (qB.s false 2 p.2.length (cTa p.2)),HO.ext false (qB.s false 6 p.3.length (cLk p.3)),HO.ext false (qB.s false 1 p.4.length (cT p.4)),HO.ext false (qB.s false 7 c.4.length (cN c.4)),HO.ext false (qB.s false 1 c.5.length (cI c.5)),HO.ext false (qB.s false 2 c.6.length (cL c.6)),HO.ext false (qB.s false 2 c.7.length (cK c.7)),HO.rowc 53 4 (List.length (zJ l (Int.toNat (IntKind.wrap .i64 (s+(gPt (gRg p.1 i).2 j).3))) v)) (Ct.fn (cE (zJ l (Int.toNat (IntKind.wrap .i64 (s+(gPt (gRg p.1 i).2 j).3))) v)))])) fun(l:List Nat) (v:Nat)=>(∀ M:Mem,(0:Int)≤(gPt (gRg p.1 i).2 j).2∧(gPt (gRg p.1 i).2 j).2<(↑nA:Int))∧(∀ M:Mem,Int.toNat (gPt (gRg p.1 i).2 j).2<nA)∧(∀ M:Mem,Int.toNat (gPt (gRg p.1 i).2 j).2=cf)∧K [It.rnd [0,0,1,1,1,1,1,0,0,1,1,0,0,1,0,1,1,1,1,1,1,1,1,1] M,It.blk 6,It.blk 5,It.at [1,1,1,0,0,1,0,1,1,1,1,1,1,1,1,1],It.rnd [0,0,1,0,1,1,1,1,1,1,1,1,1] M2,It.blk 4,It.at [1,1,1,1,1,1,1,1,1,1]] (St.mk [(114,SV.v (qA (IntKind.wrap .i64 ((↑j:Int)+(1:Int))))),(113,SV.v (qA (↑(List.length (gRg p.1 i).2):Int))),(112,SV.x 0 [(2,i,1)]),(21,SV.v (qA s)),(93,SV.v (qA (↑i:Int))),(92,SV.v (qA (↑p.1.length:Int))),(91,SV.x 0 []),(18,SV.p 1 0),(17,SV.m 2),(16,SV.m 3),(11,SV.p 4 0),(10,SV.v (qA u)),(6,SV.p 5 0),(5,SV.p 6 0),(3,SV.p 7 0)] [HO.ext false (qB.s false 2 p.1.length (cRg p.1)),HO.cells [SV.o 8] 23,HO.mp true [IntKind.i64,IntKind.i64] kl (Mc.ints IntKind.u64 ml),HO.mp false [IntKind.i64] [[(2:Int)],[(3:Int)]] (Mc.svs [SV.o 9,SV.o 10]),HO.cells [SV.o 9,SV.o 10,SV.o 11,SV.o 12] 42,HO.cells [SV.v (Value.slice none 0 0),SV.v (Value.slice none 0 0),SV.v (Value.slice none 0 0),SV.v (Value.slice none 0 0)] 42,HO.cells [SV.x 0 [],SV.x 13 [],SV.x 14 [],SV.x 15 []] 33,HO.cells [SV.v (qA c.1),SV.v (qA c.2),SV.v (qA c.3),SV.x 16 [],SV.x 17 [],SV.x 18 [],SV.x 19 []] 27,HO.rowc 3 1 ms (Ct.fn (cI ss)),HO.tbl 67 53 4 nF gF none,HO.tbl 67 53 4 nA gA (some (Int.toNat (gPt (gRg p.1 i).2 j).2,20)),HO.rowc 67 1 m (Ct.fn (cT ls)),HO.rowc 101 4 0 (Ct.lit 1 []),HO.ext false (qB.s false 2 p.2.length (cTa p.2)),HO.ext false (qB.s false 6 p.3.length (cLk p.3)),HO.ext false (qB.s false 1 p.4.length (cT p.4)),HO.ext false (qB.s false 7 c.4.length (cN c.4)),HO.ext false (qB.s false 1 c.5.length (cI c.5)),HO.ext false (qB.s false 2 c.6.length (cL c.6)),HO.ext false (qB.s false 2 c.7.length (cK c.7)),HO.rowc 53 4 (List.length (zJ l (Int.toNat (IntKind.wrap .i64 (s+(gPt (gRg p.1 i).2 j).3))) v)) (Ct.fn (cE (zJ l (Int.toNat (IntKind.wrap .i64 (s+(gPt (gRg p.1 i).2 j).3))) v)))]))∧(∀ M:Mem,i<List.length p.1)∧(∀ M:Mem,(0:Int)≤(↑j:Int)∧(↑j:Int)<(↑(List.length (gRg p.1 i).2):Int))∧(∀ M:Mem,i<List.length p.1)∧(∀ M:Mem,j<List.length (gRg p.1 i).2)∧(∀ M:Mem,0+7≤7)∧(∀ M:Mem,(match decide ([(gPt (gRg p.1 i).2 j).1]=[(2:Int)]) with | true=>some (SV.o 9) | false=>match decide ([(gPt (gRg p.1 i).2 j).1]=[(3:Int)]) with | true=>some (SV.o 10) | false=>none)=some (SV.o 10))∧(∀ M:Mem,(0:Int)≤(gPt (gRg p.1 i).2 j).2∧(gPt (gRg p.1 i).2 j).2<(↑nA:Int))∧(∀ M:Mem,Int.toNat (gPt (gRg p.1 i).2 j).2<nA)∧(∀ M:Mem,Int.toNat (gPt (gRg p.1 i).2 j).2=cf)∧lSe n (cE l) (IntKind.wrap .i64 (s+(gPt (gRg p.1 i).2 j).3)) (eI (gPt (gRg p.1 i).2 j).4) (fun(l:List Nat) (v:Nat)=>(∀ M:Mem,(0:Int)≤(gPt (gRg p.1 i).2 j).2∧(gPt (gRg p.1 i).2 j).2<(↑nA:Int))∧(∀ M:Mem,Int.toNat (gPt (gRg p.1 i).2 j).2<nA)∧(∀ M:Mem,Int.toNat (gPt (gRg p.1 i).2 j).2=cf)∧K [It.rnd [0,0,1,1,1,1,1,0,0,1,1,0,0,1,0,1,1,1,1,1,1,1,1,1] M,It.blk 6,It.blk 5,It.at [1,1,1,0,0,1,0,1,1,1,1,1,1,1,1,1],It.rnd [0,0,1,0,1,1,1,1,1,1,1,1,1] M2,It.blk 4,It.at [1,1,1,1,1,1,1,1,1,1]] (St.mk [(114,SV.v (qA (IntKind.wrap .i64 ((↑j:Int)+(1:Int))))),(113,SV.v (qA (↑(List.length (gRg p.1 i).2):Int))),(112,SV.x 0 [(2,i,1)]),(21,SV.v (qA s)),(93,SV.v (qA (↑i:Int))),(92,SV.v (qA (↑p.1.length:Int))),(91,SV.x 0 []),(18,SV.p 1 0),(17,SV.m 2),(16,SV.m 3),(11,SV.p 4 0),(10,SV.v (qA u)),(6,SV.p 5 0),(5,SV.p 6 0),(3,SV.p 7 0)] [HO.ext false (qB.s false 2 p.1.length (cRg p.1)),HO.cells [SV.o 8] 23,HO.mp true [IntKind.i64,IntKind.i64] kl (Mc.ints IntKind.u64 ml),HO.mp false [IntKind.i64] [[(2:Int)],[(3:Int)]] (Mc.svs [SV.o 9,SV.o 10]),HO.cells [SV.o 9,SV.o 10,SV.o 11,SV.o 12] 42,HO.cells [SV.v (Value.slice none 0 0),SV.v (Value.slice none 0 0),SV.v (Value.slice none 0 0),SV.v (Value.slice none 0 0)] 42,HO.cells [SV.x 0 [],SV.x 13 [],SV.x 14 [],SV.x 15 []] 33,HO.cells [SV.v (qA c.1),SV.v (qA c.2),SV.v (qA c.3),SV.x 16 [],SV.x 17 [],SV.x 18 [],SV.x 19 []] 27,HO.rowc 3 1 ms (Ct.fn (cI ss)),HO.tbl 67 53 4 nF gF none,HO.tbl 67 53 4 nA gA (some (Int.toNat (gPt (gRg p.1 i).2 j).2,20)),HO.rowc 67 1 m (Ct.fn (cT ls)),HO.rowc 101 4 0 (Ct.lit 1 []),HO.ext false (qB.s false 2 p.2.length (cTa p.2)),HO.ext false (qB.s false 6 p.3.length (cLk p.3)),HO.ext false (qB.s false 1 p.4.length (cT p.4)),HO.ext false (qB.s false 7 c.4.length (cN c.4)),HO.ext false (qB.s false 1 c.5.length (cI c.5)),HO.ext false (qB.s false 2 c.6.length (cL c.6)),HO.ext false (qB.s false 2 c.7.length (cK c.7)),HO.rowc 53 4 (List.length (zJ l (Int.toNat (IntKind.wrap .i64 (s+(gPt (gRg p.1 i).2 j).3))) v)) (Ct.fn (cE (zJ l (Int.toNat (IntKind.wrap .i64 (s+(gPt (gRg p.1 i).2 j).3))) v)))])) fun(l:List Nat) (v:Nat)=>(∀ M:Mem,(0:Int)≤(gPt (gRg p.1 i).2 j).2∧(gPt (gRg p.1 i).2 j).2<(↑nA:Int))∧(∀ M:Mem,Int.toNat (gPt (gRg p.1 i).2 j).2<nA)∧(∀ M:Mem,Int.toNat (gPt (gRg p.1 i).2 j).2=cf)∧K [It.rnd [0,0,1,1,1,1,1,0,0,1,1,0,0,1,0,1,1,1,1,1,1,1,1,1] M,It.blk 6,It.blk 5,It.at [1,1,1,0,0,1,0,1,1,1,1,1,1,1,1,1],It.rnd [0,0,1,0,1,1,1,1,1,1,1,1,1] M2,It.blk 4,It.at [1,1,1,1,1,1,1,1,1,1]] (St.mk [(114,SV.v (qA (IntKind.wrap .i64 ((↑j:Int)+(1:Int))))),(113,SV.v (qA (↑(List.length (gRg p.1 i).2):Int))),(112,SV.x 0 [(2,i,1)]),(21,SV.v (qA s)),(93,SV.v (qA (↑i:Int))),(92,SV.v (qA (↑p.1.length:Int))),(91,SV.x 0 []),(18,SV.p 1 0),(17,SV.m 2),(16,SV.m 3),(11,SV.p 4 0),(10,SV.v (qA u)),(6,SV.p 5 0),(5,SV.p 6 0),(3,SV.p 7 0)] [HO.ext false (qB.s false 2 p.1.length (cRg p.1)),HO.cells [SV.o 8] 23,HO.mp true [IntKind.i64,IntKind.i64] kl (Mc.ints IntKind.u64 ml),HO.mp false [IntKind.i64] [[(2:Int)],[(3:Int)]] (Mc.svs [SV.o 9,SV.o 10]),HO.cells [SV.o 9,SV.o 10,SV.o 11,SV.o 12] 42,HO.cells [SV.v (Value.slice none 0 0),SV.v (Value.slice none 0 0),SV.v (Value.slice none 0 0),SV.v (Value.slice none 0 0)] 42,HO.cells [SV.x 0 [],SV.x 13 [],SV.x 14 [],SV.x 15 []] 33,HO.cells [SV.v (qA c.1),SV.v (qA c.2),SV.v (qA c.3),SV.x 16 [],SV.x 17 [],SV.x 18 [],SV.x 19 []] 27,HO.rowc 3 1 ms (Ct.fn (cI ss)),HO.tbl 67 53 4 nF gF none,HO.tbl 67 53 4 nA gA (some (Int.toNat (gPt (gRg p.1 i).2 j).2,20)),HO.rowc 67 1 m (Ct.fn (cT ls)),HO.rowc 101 4 0 (Ct.lit 1 []),HO.ext false (qB.s false 2 p.2.length (cTa p.2)),HO.ext false (qB.s false 6 p.3.length (cLk p.3)),HO.ext false (qB.s false 1 p.4.length (cT p.4)),HO.ext false (qB.s false 7 c.4.length (cN c.4)),HO.ext false (qB.s false 1 c.5.length (cI c.5)),HO.ext false (qB.s false 2 c.6.length (cL c.6)),HO.ext false (qB.s false 2 c.7.length (cK c.7)),HO.rowc 53 4 (List.length (zJ l (Int.toNat (IntKind.wrap .i64 (s+(gPt (gRg p.1 i).2 j).3))) v)) (Ct.fn (cE (zJ l (Int.toNat (IntKind.wrap .i64 (s+(gPt (gRg p.1 i).2 j).3))) v)))]) else K [It.rnd [0,0,1,0,1,1,1,1,1,1,1,1,1] M2,It.blk 4,It.at [1,1,1,1,1,1,1,1,1,1]] (St.mk [(93,SV.v (qA (IntKind.wrap .i64 ((↑i:Int)+(1:Int))))),(92,SV.v (qA (↑p.1.length:Int))),(91,SV.x 0 []),(18,SV.p 1 0),(17,SV.m 2),(16,SV.m 3),(11,SV.p 4 0),(10,SV.v (qA u)),(6,SV.p 5 0),(5,SV.p 6 0),(3,SV.p 7 0)] [HO.ext false (qB.s false 2 p.1.length (cRg p.1)),HO.cells [SV.o 8] 23,HO.mp true [IntKind.i64,IntKind.i64] kl (Mc.ints IntKind.u64 ml),HO.mp false [IntKind.i64] [[(2:Int)],[(3:Int)]] (Mc.svs [SV.o 9,SV.o 10]),HO.cells [SV.o 9,SV.o 10,SV.o 11,SV.o 12] 42,HO.cells [SV.v (Value.slice none 0 0),SV.v (Value.slice none 0 0),SV.v (Value.slice none 0 0),SV.v (Value.slice none 0 0)] 42,HO.cells [SV.x 0 [],SV.x 13 [],SV.x 14 [],SV.x 15 []] 33,HO.cells [SV.v (qA c.1),SV.v (qA c.2),SV.v (qA c.3),SV.x 16 [],SV.x 17 [],SV.x 18 [],SV.x 19 []] 27,HO.rowc 3 1 ms (Ct.fn (cI ss)),HO.tbl 67 53 4 nF gF none,HO.tbl 67 53 4 nA gA (some (cf,20)),HO.rowc 67 1 m (Ct.fn (cT ls)),HO.rowc 101 4 0 (Ct.lit 1 []),HO.ext false (qB.s false 2 p.2.length (cTa p.2)),HO.ext false (qB.s false 6 p.3.length (cLk p.3)),HO.ext false (qB.s false 1 p.4.length (cT p.4)),HO.ext false (qB.s false 7 c.4.length (cN c.4)),HO.ext false (qB.s false 1 c.5.length (cI c.5)),HO.ext false (qB.s false 2 c.6.length (cL c.6)),HO.ext false (qB.s false 2 c.7.length (cK c.7)),HO.rowc 53 4 n (Ct.fn (cE l))])):=by kernel_rfl
theorem zXt(c:Cir)(p:Pln)(k:Int)(gF gA:Nat→Nat×(Nat→Nat→qB))(nF nA:Nat)(u s:Int)(ls:List (List Nat))(kl:List (List Int))(ml ss:List Int)(m ms i j M2 M:Nat)(K:List It→St→Prop)(R:SV→List HO→Prop):W (xwp Tryz.prog X qLt [] 60 (qO Tryz.f12 [] [⟨[0,1,0,1,1,1,1],[49,48,47,11,10,6,5,3],[]⟩,⟨[0,1,0,1,1,1,1,1],[64,63,62,11,10,6,5,3],[]⟩,⟨[0,1,0,1,1,1,1,1,1,1,1,1],[93,92,91,18,17,16,11,10,6,5,3],[]⟩,⟨[0,1,1,1,1,1,0,0,1,1,0,0,1,0,1,1,1,1,1,1,1,1,1],[114,113,112,21,93,92,91,18,17,16,11,10,6,5,3],[]⟩,⟨[0,1,0,1,1,1,1,1,1,1,1,1,1,1],[144,143,142,26,18,11,6,5,3],[]⟩]) [] (.at [0,0,1,1,1,1,1,0,0,1,1,0,0,1,0,1,1,1,1,1,1,1,1,1]::.rnd [0,0,1,1,1,1,1,0,0,1,1,0,0,1,0,1,1,1,1,1,1,1,1,1] M::[.blk 6,.blk 5,.at [1,1,1,0,0,1,0,1,1,1,1,1,1,1,1,1],.rnd [0,0,1,0,1,1,1,1,1,1,1,1,1] M2,.blk 4,.at [1,1,1,1,1,1,1,1,1,1]]) (St.mk [(114,.v (qA (j:Int))),(113,.v (qA (↑(List.length (gRg p.1 i).2):Int))),(112,.x 0 [(2,i,1)]),(21,.v (qA s)),(93,.v (qA (↑i:Int))),(92,.v (qA (↑p.1.length:Int))),(91,.x 0 []),(18,.p 1 0),(17,.m 2),(16,.m 3),(11,.p 4 0),(10,.v (qA u)),(6,.p 5 0),(5,.p 6 0),(3,.p 7 0)] [.ext false (.s false 2 p.1.length (cRg p.1)),.cells [.o 8] 23,.mp true [IntKind.i64,IntKind.i64] kl (Mc.ints IntKind.u64 ml),.mp false [IntKind.i64] [[(2:Int)],[(3:Int)]] (Mc.svs [.o 9,.o 10]),.cells [.o 9,.o 10,.o 11,.o 12] 42,.cells [.v (Value.slice none 0 0),.v (Value.slice none 0 0),.v (Value.slice none 0 0),.v (Value.slice none 0 0)] 42,.cells [.x 0 [],.x 13 [],.x 14 [],.x 15 []] 33,.cells [.v (qA c.1),.v (qA c.2),.v (qA c.3),.x 16 [],.x 17 [],.x 18 [],.x 19 []] 27,.rowc 3 1 ms (.fn (cI ss)),HO.tbl 67 53 4 nF gF none,HO.tbl 67 53 4 nA gA none,.rowc 67 1 m (.fn (cT ls)),.rowc 101 4 0 (.lit 1 []),.ext false (.s false 2 p.2.length (cTa p.2)),.ext false (.s false 6 p.3.length (cLk p.3)),.ext false (.s false 1 p.4.length (cT p.4)),.ext false (.s false 7 c.4.length (cN c.4)),.ext false (.s false 1 c.5.length (cI c.5)),.ext false (.s false 2 c.6.length (cL c.6)),.ext false (.s false 2 c.7.length (cK c.7))]) K R)=W (bif decide ((↑j:Int)<(↑(List.length (gRg p.1 i).2):Int)) then(∀ M:Mem,i<List.length p.1)∧(∀ M:Mem,(0:Int)≤(↑j:Int)∧(↑j:Int)<(↑(List.length (gRg p.1 i).2):Int))∧(∀ M:Mem,i<List.length p.1)∧(∀ M:Mem,j<List.length (gRg p.1 i).2)∧(∀ M:Mem,0+7≤7)∧K [It.ops [0,1,0,0,1,1,0,0,1,1,1,1,1,0,0,1,1,0,0,1,0,1,1,1,1,1,1,1,1,1] 3,.at [1,1,0,0,1,1,0,0,1,1,1,1,1,0,0,1,1,0,0,1,0,1,1,1,1,1,1,1,1,1],.blk 7,.at [1,1,1,0,0,1,1,1,1,1,0,0,1,1,0,0,1,0,1,1,1,1,1,1,1,1,1],.rnd [0,0,1,1,1,1,1,0,0,1,1,0,0,1,0,1,1,1,1,1,1,1,1,1] M,.blk 6,.blk 5,.at [1,1,1,0,0,1,0,1,1,1,1,1,1,1,1,1],.rnd [0,0,1,0,1,1,1,1,1,1,1,1,1] M2,.blk 4,.at [1,1,1,1,1,1,1,1,1,1]] (St.mk [(120,.v (qA (gPt (gRg p.1 i).2 j).1)),(119,.p 20 0),(118,.m 3),(24,.p 20 0),(117,.agg [.v (qA (gPt (gRg p.1 i).2 j).1),.v (qA (gPt (gRg p.1 i).2 j).2),.v (qA (gPt (gRg p.1 i).2 j).3),.v (qE (↑(qF (gPt (gRg p.1 i).2 j).4 0):Int)),.v (qE (↑(qF (gPt (gRg p.1 i).2 j).4 1):Int)),.v (qE (↑(qF (gPt (gRg p.1 i).2 j).4 2):Int)),.v (qE (↑(qF (gPt (gRg p.1 i).2 j).4 3):Int))]),(116,SV.xp 0 [(2,i,1)] 7 j 0),(115,.bl true),(114,.v (qA (↑j:Int))),(113,.v (qA (↑(List.length (gRg p.1 i).2):Int))),(112,.x 0 [(2,i,1)]),(21,.v (qA s)),(93,.v (qA (↑i:Int))),(92,.v (qA (↑p.1.length:Int))),(91,.x 0 []),(18,.p 1 0),(17,.m 2),(16,.m 3),(11,.p 4 0),(10,.v (qA u)),(6,.p 5 0),(5,.p 6 0),(3,.p 7 0)] [.ext false (.s false 2 p.1.length (cRg p.1)),.cells [.o 8] 23,.mp true [IntKind.i64,IntKind.i64] kl (Mc.ints IntKind.u64 ml),.mp false [IntKind.i64] [[(2:Int)],[(3:Int)]] (Mc.svs [.o 9,.o 10]),.cells [.o 9,.o 10,.o 11,.o 12] 42,.cells [.v (Value.slice none 0 0),.v (Value.slice none 0 0),.v (Value.slice none 0 0),.v (Value.slice none 0 0)] 42,.cells [.x 0 [],.x 13 [],.x 14 [],.x 15 []] 33,.cells [.v (qA c.1),.v (qA c.2),.v (qA c.3),.x 16 [],.x 17 [],.x 18 [],.x 19 []] 27,.rowc 3 1 ms (.fn (cI ss)),HO.tbl 67 53 4 nF gF none,HO.tbl 67 53 4 nA gA none,.rowc 67 1 m (.fn (cT ls)),.rowc 101 4 0 (.lit 1 []),.ext false (.s false 2 p.2.length (cTa p.2)),.ext false (.s false 6 p.3.length (cLk p.3)),.ext false (.s false 1 p.4.length (cT p.4)),.ext false (.s false 7 c.4.length (cN c.4)),.ext false (.s false 1 c.5.length (cI c.5)),.ext false (.s false 2 c.6.length (cL c.6)),.ext false (.s false 2 c.7.length (cK c.7)),.cells [.v (qA (gPt (gRg p.1 i).2 j).1),.v (qA (gPt (gRg p.1 i).2 j).2),.v (qA (gPt (gRg p.1 i).2 j).3),.v (qE (↑(qF (gPt (gRg p.1 i).2 j).4 0):Int)),.v (qE (↑(qF (gPt (gRg p.1 i).2 j).4 1):Int)),.v (qE (↑(qF (gPt (gRg p.1 i).2 j).4 2):Int)),.v (qE (↑(qF (gPt (gRg p.1 i).2 j).4 3):Int))] 55]) else K [.rnd [0,0,1,0,1,1,1,1,1,1,1,1,1] M2,.blk 4,.at [1,1,1,1,1,1,1,1,1,1]] (St.mk [(93,.v (qA (IntKind.wrap .i64 ((↑i:Int)+(1:Int))))),(92,.v (qA (↑p.1.length:Int))),(91,.x 0 []),(18,.p 1 0),(17,.m 2),(16,.m 3),(11,.p 4 0),(10,.v (qA u)),(6,.p 5 0),(5,.p 6 0),(3,.p 7 0)] [.ext false (.s false 2 p.1.length (cRg p.1)),.cells [.o 8] 23,.mp true [IntKind.i64,IntKind.i64] kl (Mc.ints IntKind.u64 ml),.mp false [IntKind.i64] [[(2:Int)],[(3:Int)]] (Mc.svs [.o 9,.o 10]),.cells [.o 9,.o 10,.o 11,.o 12] 42,.cells [.v (Value.slice none 0 0),.v (Value.slice none 0 0),.v (Value.slice none 0 0),.v (Value.slice none 0 0)] 42,.cells [.x 0 [],.x 13 [],.x 14 [],.x 15 []] 33,.cells [.v (qA c.1),.v (qA c.2),.v (qA c.3),.x 16 [],.x 17 [],.x 18 [],.x 19 []] 27,.rowc 3 1 ms (.fn (cI ss)),HO.tbl 67 53 4 nF gF none,HO.tbl 67 53 4 nA gA none,.rowc 67 1 m (.fn (cT ls)),.rowc 101 4 0 (.lit 1 []),.ext false (.s false 2 p.2.length (cTa p.2)),.ext false (.s false 6 p.3.length (cLk p.3)),.ext false (.s false 1 p.4.length (cT p.4)),.ext false (.s false 7 c.4.length (cN c.4)),.ext false (.s false 1 c.5.length (cI c.5)),.ext false (.s false 2 c.6.length (cL c.6)),.ext false (.s false 2 c.7.length (cK c.7))])):=by kernel_rfl
theorem qHy(c:Cir)(p:Pln)(hp:p.ok)(k u:Int)(hR:plR c p u)(hu0:0≤u)(hu:u≤1000000)(ls:List (List Nat))(m ms:Nat)(kl:List (List Int))(ml ss:List Int)(i:Nat)(hi:i<p.rg.length)(s:Int)(hs0:0≤s)(hsr:s+(gRg p.rg i).1≤u)(M2:Nat)(Q:SV→List HO→Prop):∀(d j:Nat) (lF lA:List (List Nat)),j+d=(gRg p.rg i).2.length→lF.length=c.fx.toNat→lA.length=c.ad.toNat→(∀ q,((gT lF q).length:Int)≤u)→(∀ q,((gT lA q).length:Int)≤u) →
  FOk Tryz.prog Tryz.f12 Q (.rnd [0,0,1,0,1,1,1,1,1,1,1,1,1] M2::[.blk 4,.at [1,1,1,1,1,1,1,1,1,1]]) (St.mk [(93,SV.v (qA ((i+1:Nat):Int))),(92,SV.v (qA (↑(List.length p.1):Int))),(91,SV.x 0 []),(18,SV.p 1 0),(17,SV.m 2),(16,SV.m 3),(11,SV.p 4 0),(10,SV.v (qA u)),(6,SV.p 5 0),(5,SV.p 6 0),(3,SV.p 7 0)] [HO.ext false (qB.s false 2 (List.length p.1) (cRg p.1)),HO.cells [SV.o 8] 23,HO.mp true [IntKind.i64,IntKind.i64] kl (Mc.ints IntKind.u64 ml),HO.mp false [IntKind.i64] [[(2:Int)],[(3:Int)]] (Mc.svs [SV.o 9,SV.o 10]),HO.cells [SV.o 9,SV.o 10,SV.o 11,SV.o 12] 42,HO.cells [SV.v (Value.slice none 0 0),SV.v (Value.slice none 0 0),SV.v (Value.slice none 0 0),SV.v (Value.slice none 0 0)] 42,HO.cells [SV.x 0 [],SV.x 13 [],SV.x 14 [],SV.x 15 []] 33,HO.cells [SV.v (qA c.1),SV.v (qA c.2),SV.v (qA c.3),SV.x 16 [],SV.x 17 [],SV.x 18 [],SV.x 19 []] 27,HO.rowc 3 1 ms (Ct.fn (cI ss)),HO.tbl 67 53 4 (qAv s ((gRg p.rg i).2.drop j) lF lA).1.length (tC (qAv s ((gRg p.rg i).2.drop j) lF lA).1) none,HO.tbl 67 53 4 (qAv s ((gRg p.rg i).2.drop j) lF lA).2.length (tC (qAv s ((gRg p.rg i).2.drop j) lF lA).2) none,HO.rowc 67 1 m (Ct.fn (cT ls)),HO.rowc 101 4 0 (Ct.lit 1 []),HO.ext false (qB.s false 2 (List.length p.2) (cTa p.2)),HO.ext false (qB.s false 6 (List.length p.3) (cLk p.3)),HO.ext false (qB.s false 1 (List.length p.4) (cT p.4)),HO.ext false (qB.s false 7 (List.length c.4) (cN c.4)),HO.ext false (qB.s false 1 (List.length c.5) (cI c.5)),HO.ext false (qB.s false 2 (List.length c.6) (cL c.6)),HO.ext false (qB.s false 2 (List.length c.7) (cK c.7))]) →
  FOk Tryz.prog Tryz.f12 Q (.rnd [0,0,1,1,1,1,1,0,0,1,1,0,0,1,0,1,1,1,1,1,1,1,1,1] (d+1)::[.blk 6,.blk 5,.at [1,1,1,0,0,1,0,1,1,1,1,1,1,1,1,1],.rnd [0,0,1,0,1,1,1,1,1,1,1,1,1] M2,.blk 4,.at [1,1,1,1,1,1,1,1,1,1]]) (St.mk [(114,SV.v (qA (j:Int))),(113,SV.v (qA (↑(List.length (gRg p.1 i).2):Int))),(112,SV.x 0 [(2,i,1)]),(21,SV.v (qA s)),(93,SV.v (qA (↑i:Int))),(92,SV.v (qA (↑(List.length p.1):Int))),(91,SV.x 0 []),(18,SV.p 1 0),(17,SV.m 2),(16,SV.m 3),(11,SV.p 4 0),(10,SV.v (qA u)),(6,SV.p 5 0),(5,SV.p 6 0),(3,SV.p 7 0)] [HO.ext false (qB.s false 2 (List.length p.1) (cRg p.1)),HO.cells [SV.o 8] 23,HO.mp true [IntKind.i64,IntKind.i64] kl (Mc.ints IntKind.u64 ml),HO.mp false [IntKind.i64] [[(2:Int)],[(3:Int)]] (Mc.svs [SV.o 9,SV.o 10]),HO.cells [SV.o 9,SV.o 10,SV.o 11,SV.o 12] 42,HO.cells [SV.v (Value.slice none 0 0),SV.v (Value.slice none 0 0),SV.v (Value.slice none 0 0),SV.v (Value.slice none 0 0)] 42,HO.cells [SV.x 0 [],SV.x 13 [],SV.x 14 [],SV.x 15 []] 33,HO.cells [SV.v (qA c.1),SV.v (qA c.2),SV.v (qA c.3),SV.x 16 [],SV.x 17 [],SV.x 18 [],SV.x 19 []] 27,HO.rowc 3 1 ms (Ct.fn (cI ss)),HO.tbl 67 53 4 lF.length (tC lF) none,HO.tbl 67 53 4 lA.length (tC lA) none,HO.rowc 67 1 m (Ct.fn (cT ls)),HO.rowc 101 4 0 (Ct.lit 1 []),HO.ext false (qB.s false 2 (List.length p.2) (cTa p.2)),HO.ext false (qB.s false 6 (List.length p.3) (cLk p.3)),HO.ext false (qB.s false 1 (List.length p.4) (cT p.4)),HO.ext false (qB.s false 7 (List.length c.4) (cN c.4)),HO.ext false (qB.s false 1 (List.length c.5) (cI c.5)),HO.ext false (qB.s false 2 (List.length c.6) (cL c.6)),HO.ext false (qB.s false 2 (List.length c.7) (cK c.7))])
 | 0,j,lF,lA,hd,hlF,hlA,hcF,hcA,hq=>by
  have hn:=hR.nr
  refine FOk.rnd (qC hm 60 ((zXt c p k (tC lF) (tC lA) lF.length lA.length u s ls kl ml ss m ms i j M2 0 _ _).mpr ⟨?_⟩))
  rw[qD,if_neg (by omega),qK _ (by omega)]
  rw[show j=(gRg p.rg i).2.length by omega,List.drop_length] at hq
  exact hq
 | d+1,j,lF,lA,hd,hlF,hlA,hcF,hcA,hq=>by
  have hj:j<(gRg p.rg i).2.length:=by omega
  have hg:=hR.r _ (zR hi)
  have hn:=hg.n
  have hx:=hg.x _ (qJv hj)
  have hc0:=hx.c0
  have ho0:=hx.o0
  have ho1:=hx.o1
  have hr1:((s+(gPt (gRg p.rg i).2 j).of).toNat:Int)+1≤u:=by omega
  rw[qAk hj,qAv] at hq
  rcases hx.k with ⟨h2,hc⟩ | ⟨h3,hc⟩
  ·have hk:(Int.toNat (gPt (gRg p.rg i).2 j).co)<lF.length:=by omega
   rw[if_pos h2] at hq
   have hcl:=hcF (Int.toNat (gPt (gRg p.rg i).2 j).co)
   have ih:=qHy c p hp k u hR hu0 hu ls m ms kl ml ss i hi s hs0 hsr M2 Q d (j+1) (lF.set (Int.toNat (gPt (gRg p.rg i).2 j).co) (zJ (gT lF (Int.toNat (gPt (gRg p.rg i).2 j).co)) (Int.toNat (s+(gPt (gRg p.rg i).2 j).of)) (gPt (gRg p.rg i).2 j).v)) lA (by omega) (by rw[List.length_set]; exact hlF) hlA (qAh hk hcF hr1) hcA hq
   have fin:FOk Tryz.prog Tryz.f12 Q (.rnd [0,0,1,1,1,1,1,0,0,1,1,0,0,1,0,1,1,1,1,1,1,1,1,1] d.succ::[.blk 6,.blk 5,.at [1,1,1,0,0,1,0,1,1,1,1,1,1,1,1,1],.rnd [0,0,1,0,1,1,1,1,1,1,1,1,1] M2,.blk 4,.at [1,1,1,1,1,1,1,1,1,1]]) (St.mk [(114,SV.v (qA ((j+1:Nat):Int))),(113,SV.v (qA (↑(List.length (gRg p.1 i).2):Int))),(112,SV.x 0 [(2,i,1)]),(21,SV.v (qA s)),(93,SV.v (qA (↑i:Int))),(92,SV.v (qA (↑(List.length p.1):Int))),(91,SV.x 0 []),(18,SV.p 1 0),(17,SV.m 2),(16,SV.m 3),(11,SV.p 4 0),(10,SV.v (qA u)),(6,SV.p 5 0),(5,SV.p 6 0),(3,SV.p 7 0)] [HO.ext false (qB.s false 2 (List.length p.1) (cRg p.1)),HO.cells [SV.o 8] 23,HO.mp true [IntKind.i64,IntKind.i64] kl (Mc.ints IntKind.u64 ml),HO.mp false [IntKind.i64] [[(2:Int)],[(3:Int)]] (Mc.svs [SV.o 9,SV.o 10]),HO.cells [SV.o 9,SV.o 10,SV.o 11,SV.o 12] 42,HO.cells [SV.v (Value.slice none 0 0),SV.v (Value.slice none 0 0),SV.v (Value.slice none 0 0),SV.v (Value.slice none 0 0)] 42,HO.cells [SV.x 0 [],SV.x 13 [],SV.x 14 [],SV.x 15 []] 33,HO.cells [SV.v (qA c.1),SV.v (qA c.2),SV.v (qA c.3),SV.x 16 [],SV.x 17 [],SV.x 18 [],SV.x 19 []] 27,HO.rowc 3 1 ms (Ct.fn (cI ss)),HO.tbl 67 53 4 lF.length (tC lF) (some ((Int.toNat (gPt (gRg p.rg i).2 j).co),20)),HO.tbl 67 53 4 lA.length (tC lA) none,HO.rowc 67 1 m (Ct.fn (cT ls)),HO.rowc 101 4 0 (Ct.lit 1 []),HO.ext false (qB.s false 2 (List.length p.2) (cTa p.2)),HO.ext false (qB.s false 6 (List.length p.3) (cLk p.3)),HO.ext false (qB.s false 1 (List.length p.4) (cT p.4)),HO.ext false (qB.s false 7 (List.length c.4) (cN c.4)),HO.ext false (qB.s false 1 (List.length c.5) (cI c.5)),HO.ext false (qB.s false 2 (List.length c.6) (cL c.6)),HO.ext false (qB.s false 2 (List.length c.7) (cK c.7)),HO.rowc 53 4 (List.length (zJ (gT lF (Int.toNat (gPt (gRg p.rg i).2 j).co)) (Int.toNat (s+(gPt (gRg p.rg i).2 j).of)) (gPt (gRg p.rg i).2 j).v)) (Ct.fn (cE (zJ (gT lF (Int.toNat (gPt (gRg p.rg i).2 j).co)) (Int.toNat (s+(gPt (gRg p.rg i).2 j).of)) (gPt (gRg p.rg i).2 j).v)))]):=by
    refine FOk.unfocus 9 20 _ rfl rfl (by decide) ?_
    rw[qEn hk _]
    rw[List.length_set] at ih
    exact FOk.norm (ks:=[114,113,112,21,93,92,91,18,17,16,11,10,6,5,3]) (nl:=[]) (by kernel_rfl) ih
   refine FOk.focus 9 (Int.toNat (gPt (gRg p.rg i).2 j).co) rfl hk ?_
   refine FOk.rnd (qC hm 60 ((zYk c p k (tC lF) (tC lA) lF.length lA.length u s ls kl ml ss (gT lF (Int.toNat (gPt (gRg p.rg i).2 j).co)) (Int.toNat (gPt (gRg p.rg i).2 j).co) (gT lF (Int.toNat (gPt (gRg p.rg i).2 j).co)).length m ms i j M2 (d+1) _ _).mpr ⟨?_⟩))
   rw[qD,if_pos (by omega),qK _ (by omega),zE (s+(gPt (gRg p.rg i).2 j).of) (by omega)]
   repeat' (first | refine And.intro (fun _=>by omega) ?_ | refine And.intro (fun _=>by rw[h2]; rfl) ?_ | refine And.intro ?_ ?_)
   all_goals exact⟨⟨_,_,rfl,IsC.refl _ _ _,rfl,by omega,by omega,by omega,fun _=>⟨fun _=>by omega,fun _=>by omega,fun _=>rfl,fin⟩,fun _=>⟨fun _=>by omega,fun _=>by omega,fun _=>rfl,fin⟩⟩⟩
  ·have hk:(Int.toNat (gPt (gRg p.rg i).2 j).co)<lA.length:=by omega
   rw[if_neg (by omega)] at hq
   have hcl:=hcA (Int.toNat (gPt (gRg p.rg i).2 j).co)
   have ih:=qHy c p hp k u hR hu0 hu ls m ms kl ml ss i hi s hs0 hsr M2 Q d (j+1) lF (lA.set (Int.toNat (gPt (gRg p.rg i).2 j).co) (zJ (gT lA (Int.toNat (gPt (gRg p.rg i).2 j).co)) (Int.toNat (s+(gPt (gRg p.rg i).2 j).of)) (gPt (gRg p.rg i).2 j).v)) (by omega) hlF (by rw[List.length_set]; exact hlA) hcF (qAh hk hcA hr1) hq
   have fin:FOk Tryz.prog Tryz.f12 Q (.rnd [0,0,1,1,1,1,1,0,0,1,1,0,0,1,0,1,1,1,1,1,1,1,1,1] d.succ::[.blk 6,.blk 5,.at [1,1,1,0,0,1,0,1,1,1,1,1,1,1,1,1],.rnd [0,0,1,0,1,1,1,1,1,1,1,1,1] M2,.blk 4,.at [1,1,1,1,1,1,1,1,1,1]]) (St.mk [(114,SV.v (qA ((j+1:Nat):Int))),(113,SV.v (qA (↑(List.length (gRg p.1 i).2):Int))),(112,SV.x 0 [(2,i,1)]),(21,SV.v (qA s)),(93,SV.v (qA (↑i:Int))),(92,SV.v (qA (↑(List.length p.1):Int))),(91,SV.x 0 []),(18,SV.p 1 0),(17,SV.m 2),(16,SV.m 3),(11,SV.p 4 0),(10,SV.v (qA u)),(6,SV.p 5 0),(5,SV.p 6 0),(3,SV.p 7 0)] [HO.ext false (qB.s false 2 (List.length p.1) (cRg p.1)),HO.cells [SV.o 8] 23,HO.mp true [IntKind.i64,IntKind.i64] kl (Mc.ints IntKind.u64 ml),HO.mp false [IntKind.i64] [[(2:Int)],[(3:Int)]] (Mc.svs [SV.o 9,SV.o 10]),HO.cells [SV.o 9,SV.o 10,SV.o 11,SV.o 12] 42,HO.cells [SV.v (Value.slice none 0 0),SV.v (Value.slice none 0 0),SV.v (Value.slice none 0 0),SV.v (Value.slice none 0 0)] 42,HO.cells [SV.x 0 [],SV.x 13 [],SV.x 14 [],SV.x 15 []] 33,HO.cells [SV.v (qA c.1),SV.v (qA c.2),SV.v (qA c.3),SV.x 16 [],SV.x 17 [],SV.x 18 [],SV.x 19 []] 27,HO.rowc 3 1 ms (Ct.fn (cI ss)),HO.tbl 67 53 4 lF.length (tC lF) none,HO.tbl 67 53 4 lA.length (tC lA) (some ((Int.toNat (gPt (gRg p.rg i).2 j).co),20)),HO.rowc 67 1 m (Ct.fn (cT ls)),HO.rowc 101 4 0 (Ct.lit 1 []),HO.ext false (qB.s false 2 (List.length p.2) (cTa p.2)),HO.ext false (qB.s false 6 (List.length p.3) (cLk p.3)),HO.ext false (qB.s false 1 (List.length p.4) (cT p.4)),HO.ext false (qB.s false 7 (List.length c.4) (cN c.4)),HO.ext false (qB.s false 1 (List.length c.5) (cI c.5)),HO.ext false (qB.s false 2 (List.length c.6) (cL c.6)),HO.ext false (qB.s false 2 (List.length c.7) (cK c.7)),HO.rowc 53 4 (List.length (zJ (gT lA (Int.toNat (gPt (gRg p.rg i).2 j).co)) (Int.toNat (s+(gPt (gRg p.rg i).2 j).of)) (gPt (gRg p.rg i).2 j).v)) (Ct.fn (cE (zJ (gT lA (Int.toNat (gPt (gRg p.rg i).2 j).co)) (Int.toNat (s+(gPt (gRg p.rg i).2 j).of)) (gPt (gRg p.rg i).2 j).v)))]):=by
    refine FOk.unfocus 10 20 _ rfl rfl (by decide) ?_
    rw[qEn hk _]
    rw[List.length_set] at ih
    exact FOk.norm (ks:=[114,113,112,21,93,92,91,18,17,16,11,10,6,5,3]) (nl:=[]) (by kernel_rfl) ih
   refine FOk.focus 10 (Int.toNat (gPt (gRg p.rg i).2 j).co) rfl hk ?_
   refine FOk.rnd (qC hm 60 ((zUg c p k (tC lF) (tC lA) lF.length lA.length u s ls kl ml ss (gT lA (Int.toNat (gPt (gRg p.rg i).2 j).co)) (Int.toNat (gPt (gRg p.rg i).2 j).co) (gT lA (Int.toNat (gPt (gRg p.rg i).2 j).co)).length m ms i j M2 (d+1) _ _).mpr ⟨?_⟩))
   rw[qD,if_pos (by omega),qK _ (by omega),zE (s+(gPt (gRg p.rg i).2 j).of) (by omega)]
   repeat' (first | refine And.intro (fun _=>by omega) ?_ | refine And.intro (fun _=>by rw[h3]; rfl) ?_ | refine And.intro ?_ ?_)
   all_goals exact⟨⟨_,_,rfl,IsC.refl _ _ _,rfl,by omega,by omega,by omega,fun _=>⟨fun _=>by omega,fun _=>by omega,fun _=>rfl,fin⟩,fun _=>⟨fun _=>by omega,fun _=>by omega,fun _=>rfl,fin⟩⟩⟩
end Go.Proofs.YtlmjdcbhpffanaaGreat
/- Layout: regions. -/
namespace Go.Proofs.YtlmjdcbhpffanaaGreat
open Go.Sx Go.Pl
set_option linter.unusedVariables false
set_option maxRecDepth 100000
theorem zIp(c:Cir)(p:Pln)(k:Int)(gF gA:Nat→Nat×(Nat→Nat→qB))(nF nA:Nat)(u:Int)(ls:List (List Nat))(kl:List (List Int))(ml ss:List Int)(m ms i M:Nat)(K:List It→St→Prop)(R:SV→List HO→Prop):W (xwp Tryz.prog X qLt [] 60 (qO Tryz.f12 [] [⟨[0,1,0,1,1,1,1],[49,48,47,11,10,6,5,3],[]⟩,⟨[0,1,0,1,1,1,1,1],[64,63,62,11,10,6,5,3],[]⟩,⟨[0,1,0,1,1,1,1,1,1,1,1,1],[93,92,91,18,17,16,11,10,6,5,3],[]⟩,⟨[0,1,1,1,1,1,0,0,1,1,0,0,1,0,1,1,1,1,1,1,1,1,1],[114,113,112,21,93,92,91,18,17,16,11,10,6,5,3],[]⟩,⟨[0,1,0,1,1,1,1,1,1,1,1,1,1,1],[144,143,142,26,18,11,6,5,3],[]⟩]) [] (.at [0,0,1,0,1,1,1,1,1,1,1,1,1]::.rnd [0,0,1,0,1,1,1,1,1,1,1,1,1] M::[.blk 4,.at [1,1,1,1,1,1,1,1,1,1]]) (St.mk [(93,.v (qA (i:Int))),(92,.v (qA (↑p.1.length:Int))),(91,.x 0 []),(18,.p 1 0),(17,.m 2),(16,.m 3),(11,.p 4 0),(10,.v (qA u)),(6,.p 5 0),(5,.p 6 0),(3,.p 7 0)] [.ext false (.s false 2 p.1.length (cRg p.1)),.cells [.o 8] 23,.mp true [IntKind.i64,IntKind.i64] kl (Mc.ints IntKind.u64 ml),.mp false [IntKind.i64] [[(2:Int)],[(3:Int)]] (Mc.svs [.o 9,.o 10]),.cells [.o 9,.o 10,.o 11,.o 12] 42,.cells [.v (Value.slice none 0 0),.v (Value.slice none 0 0),.v (Value.slice none 0 0),.v (Value.slice none 0 0)] 42,.cells [.x 0 [],.x 13 [],.x 14 [],.x 15 []] 33,.cells [.v (qA c.1),.v (qA c.2),.v (qA c.3),.x 16 [],.x 17 [],.x 18 [],.x 19 []] 27,.rowc 3 1 ms (.fn (cI ss)),HO.tbl 67 53 4 nF gF none,HO.tbl 67 53 4 nA gA none,.rowc 67 1 m (.fn (cT ls)),.rowc 101 4 0 (.lit 1 []),.ext false (.s false 2 p.2.length (cTa p.2)),.ext false (.s false 6 p.3.length (cLk p.3)),.ext false (.s false 1 p.4.length (cT p.4)),.ext false (.s false 7 c.4.length (cN c.4)),.ext false (.s false 1 c.5.length (cI c.5)),.ext false (.s false 2 c.6.length (cL c.6)),.ext false (.s false 2 c.7.length (cK c.7))]) K R)=W (bif decide ((↑i:Int)<(↑p.1.length:Int)) then(∀ M:Mem,(0:Int)≤(↑i:Int)∧(↑i:Int)<(↑p.1.length:Int))∧(∀ M:Mem,i<List.length p.1)∧(∀ M:Mem,0+2≤2)∧lPc kl ml (gRg p.1 i).1 u p.1.length (cRg p.1) i (fun(rg:List (Int×List Pt))=>(∀ M:Mem,4≤4)∧R (.tup [.agg [.v (Value.slice none 0 0),.v (Value.slice none 0 0),.v (Value.slice none 0 0),.v (Value.slice none 0 0)],.v (Value.slice none 0 0),.v (qA 141)]) []) fun(rg:List (Int×List Pt)) (s:Int)=>(∀ M:Mem,(ms+1)*8≤140737488355328∧ms+1≤140737488355328)∧(∀ M:Mem,0+1≤1)∧(∀ M:Mem,i<List.length rg)∧K [.at [0,1,1,1,1,1,0,0,1,1,0,0,1,0,1,1,1,1,1,1,1,1,1],.blk 6,.blk 5,.at [1,1,1,0,0,1,0,1,1,1,1,1,1,1,1,1],.rnd [0,0,1,0,1,1,1,1,1,1,1,1,1] M,.blk 4,.at [1,1,1,1,1,1,1,1,1,1]] (St.mk [(114,.v (qA 0)),(113,.v (qA (↑(List.length (gRg rg i).2):Int))),(112,.x 0 [(2,i,1)]),(21,.v (qA s)),(93,.v (qA (↑i:Int))),(92,.v (qA (↑p.1.length:Int))),(91,.x 0 []),(18,.p 1 0),(17,.m 2),(16,.m 3),(11,.p 4 0),(10,.v (qA u)),(6,.p 5 0),(5,.p 6 0),(3,.p 7 0)] [.ext false (.s false 2 rg.length (cRg rg)),.cells [.o 8] 23,.mp true [IntKind.i64,IntKind.i64] (xU (yL (gRg p.1 i).1 s) kl ml (gRg rg i).2).1 (Mc.ints IntKind.u64 (xU (yL (gRg p.1 i).1 s) kl ml (gRg rg i).2).2),.mp false [IntKind.i64] [[(2:Int)],[(3:Int)]] (Mc.svs [.o 9,.o 10]),.cells [.o 9,.o 10,.o 11,.o 12] 42,.cells [.v (Value.slice none 0 0),.v (Value.slice none 0 0),.v (Value.slice none 0 0),.v (Value.slice none 0 0)] 42,.cells [.x 0 [],.x 13 [],.x 14 [],.x 15 []] 33,.cells [.v (qA c.1),.v (qA c.2),.v (qA c.3),.x 16 [],.x 17 [],.x 18 [],.x 19 []] 27,.rowc 3 1 (ms+1) (.app ms (.fn (cI ss)) (.lit 1 [.v (qA s)])),HO.tbl 67 53 4 nF gF none,HO.tbl 67 53 4 nA gA none,.rowc 67 1 m (.fn (cT ls)),.rowc 101 4 0 (.lit 1 []),.ext false (.s false 2 p.2.length (cTa p.2)),.ext false (.s false 6 p.3.length (cLk p.3)),.ext false (.s false 1 p.4.length (cT p.4)),.ext false (.s false 7 c.4.length (cN c.4)),.ext false (.s false 1 c.5.length (cI c.5)),.ext false (.s false 2 c.6.length (cL c.6)),.ext false (.s false 2 c.7.length (cK c.7))]) else K [.at [0,1,0,1,1,1,1,1,1,1,1,1,1,1],.blk 8,.at [1,1,1,1,1,1,1,1,1,1,1,1]] (St.mk [(144,.v (qA 0)),(143,.v (qA (↑p.3.length:Int))),(142,.x 0 []),(26,SV.fn (Fn.func 46) [] [.p 1 0]),(18,.p 1 0),(11,.p 2 0),(6,.p 3 0),(5,.p 4 0),(3,.p 5 0)] [.ext false (.s false 6 p.3.length (cLk p.3)),.cells [.o 6] 23,.cells [.o 7,.o 8,.o 9,.o 10] 42,.cells [.v (Value.slice none 0 0),.v (Value.slice none 0 0),.v (Value.slice none 0 0),.v (Value.slice none 0 0)] 42,.cells [.x 11 [],.x 12 [],.x 0 [],.x 13 []] 33,.cells [.v (qA c.1),.v (qA c.2),.v (qA c.3),.x 14 [],.x 15 [],.x 16 [],.x 17 []] 27,.rowc 3 1 ms (.fn (cI ss)),HO.tbl 67 53 4 nF gF none,HO.tbl 67 53 4 nA gA none,.rowc 67 1 m (.fn (cT ls)),.rowc 101 4 0 (.lit 1 []),.ext false (.s false 2 p.1.length (cRg p.1)),.ext false (.s false 2 p.2.length (cTa p.2)),.ext false (.s false 1 p.4.length (cT p.4)),.ext false (.s false 7 c.4.length (cN c.4)),.ext false (.s false 1 c.5.length (cI c.5)),.ext false (.s false 2 c.6.length (cL c.6)),.ext false (.s false 2 c.7.length (cK c.7))])):=by kernel_rfl
theorem qNs(c:Cir)(p:Pln)(hp:p.ok)(k u:Int)(hR:plR c p u)(hu0:0≤u)(hu:u≤1000000)(ls:List (List Nat))(m:Nat)(Q:SV→List HO→Prop):∀(d i:Nat) (kl:List (List Int)) (ml:List Int) (lF lA:List (List Nat)) (ss:List Int),i+d=p.rg.length→ml.length=kl.length→lF.length=c.fx.toNat→lA.length=c.ad.toNat→(∀ q,((gT lF q).length:Int)≤u)→(∀ q,((gT lA q).length:Int)≤u)→ss.length=i→(yQ u (p.rg.drop i) kl ml lF lA ss=none→Q (SV.tup [SV.agg [SV.v (Value.slice none 0 0),SV.v (Value.slice none 0 0),SV.v (Value.slice none 0 0),SV.v (Value.slice none 0 0)],SV.v (Value.slice none 0 0),SV.v (qA (141:Int))]) []) →
  (∀ z,yQ u (p.rg.drop i) kl ml lF lA ss=some z→FOk Tryz.prog Tryz.f12 Q (.at [0,1,0,1,1,1,1,1,1,1,1,1,1,1]::[.blk 8,.at [1,1,1,1,1,1,1,1,1,1,1,1]]) (St.mk [(144,SV.v (qA (0:Int))),(143,SV.v (qA (↑(List.length p.3):Int))),(142,SV.x 0 []),(26,SV.fn (Fn.func 46) [] [SV.p 1 0]),(18,SV.p 1 0),(11,SV.p 2 0),(6,SV.p 3 0),(5,SV.p 4 0),(3,SV.p 5 0)] [HO.ext false (qB.s false 6 (List.length p.3) (cLk p.3)),HO.cells [SV.o 6] 23,HO.cells [SV.o 7,SV.o 8,SV.o 9,SV.o 10] 42,HO.cells [SV.v (Value.slice none 0 0),SV.v (Value.slice none 0 0),SV.v (Value.slice none 0 0),SV.v (Value.slice none 0 0)] 42,HO.cells [SV.x 11 [],SV.x 12 [],SV.x 0 [],SV.x 13 []] 33,HO.cells [SV.v (qA c.1),SV.v (qA c.2),SV.v (qA c.3),SV.x 14 [],SV.x 15 [],SV.x 16 [],SV.x 17 []] 27,HO.rowc 3 1 z.2.2.length (Ct.fn (cI z.2.2)),HO.tbl 67 53 4 z.1.length (tC z.1) none,HO.tbl 67 53 4 z.2.1.length (tC z.2.1) none,HO.rowc 67 1 m (Ct.fn (cT ls)),HO.rowc 101 4 0 (Ct.lit 1 []),HO.ext false (qB.s false 2 (List.length p.1) (cRg p.1)),HO.ext false (qB.s false 2 (List.length p.2) (cTa p.2)),HO.ext false (qB.s false 1 (List.length p.4) (cT p.4)),HO.ext false (qB.s false 7 (List.length c.4) (cN c.4)),HO.ext false (qB.s false 1 (List.length c.5) (cI c.5)),HO.ext false (qB.s false 2 (List.length c.6) (cL c.6)),HO.ext false (qB.s false 2 (List.length c.7) (cK c.7))])) →
  FOk Tryz.prog Tryz.f12 Q (.rnd [0,0,1,0,1,1,1,1,1,1,1,1,1] (d+1)::[.blk 4,.at [1,1,1,1,1,1,1,1,1,1]]) (St.mk [(93,SV.v (qA (i:Int))),(92,SV.v (qA (↑(List.length p.1):Int))),(91,SV.x 0 []),(18,SV.p 1 0),(17,SV.m 2),(16,SV.m 3),(11,SV.p 4 0),(10,SV.v (qA u)),(6,SV.p 5 0),(5,SV.p 6 0),(3,SV.p 7 0)] [HO.ext false (qB.s false 2 (List.length p.1) (cRg p.1)),HO.cells [SV.o 8] 23,HO.mp true [IntKind.i64,IntKind.i64] kl (Mc.ints IntKind.u64 ml),HO.mp false [IntKind.i64] [[(2:Int)],[(3:Int)]] (Mc.svs [SV.o 9,SV.o 10]),HO.cells [SV.o 9,SV.o 10,SV.o 11,SV.o 12] 42,HO.cells [SV.v (Value.slice none 0 0),SV.v (Value.slice none 0 0),SV.v (Value.slice none 0 0),SV.v (Value.slice none 0 0)] 42,HO.cells [SV.x 0 [],SV.x 13 [],SV.x 14 [],SV.x 15 []] 33,HO.cells [SV.v (qA c.1),SV.v (qA c.2),SV.v (qA c.3),SV.x 16 [],SV.x 17 [],SV.x 18 [],SV.x 19 []] 27,HO.rowc 3 1 ss.length (Ct.fn (cI ss)),HO.tbl 67 53 4 lF.length (tC lF) none,HO.tbl 67 53 4 lA.length (tC lA) none,HO.rowc 67 1 m (Ct.fn (cT ls)),HO.rowc 101 4 0 (Ct.lit 1 []),HO.ext false (qB.s false 2 (List.length p.2) (cTa p.2)),HO.ext false (qB.s false 6 (List.length p.3) (cLk p.3)),HO.ext false (qB.s false 1 (List.length p.4) (cT p.4)),HO.ext false (qB.s false 7 (List.length c.4) (cN c.4)),HO.ext false (qB.s false 1 (List.length c.5) (cI c.5)),HO.ext false (qB.s false 2 (List.length c.6) (cL c.6)),HO.ext false (qB.s false 2 (List.length c.7) (cK c.7))])
 | 0,i,kl,ml,lF,lA,ss,hd,hl,hlF,hlA,hcF,hcA,hss,hn,hs=>by
  refine FOk.rnd (qC hm 60 ((zIp c p k (tC lF) (tC lA) lF.length lA.length u ls kl ml ss m ss.length i 0 _ _).mpr ⟨?_⟩))
  rw[qD,if_neg (by omega)]
  exact hs (lF,lA,ss) (by rw[show i=p.rg.length by omega,List.drop_length]; rfl)
 | d+1,i,kl,ml,lF,lA,ss,hd,hl,hlF,hlA,hcF,hcA,hss,hn,hs=>by
  have hi:i<p.rg.length:=by omega
  have hg:=hR.r _ (zR hi)
  have hgn:=hg.n
  have hgw:=hg.w
  have hnr:=hR.nr
  rw[qLs hi,yQ] at hn hs
  refine FOk.rnd (qC hm 60 ((zIp c p k (tC lF) (tC lA) lF.length lA.length u ls kl ml ss m ss.length i (d+1) _ _).mpr ⟨?_⟩))
  rw[qD,if_pos (by omega)]
  refine aI (aI (And.intro (fun _=>by omega) ⟨⟨p.rg,rfl,IsC.refl _ _ _,hi,by omega,hl,by omega,hu,fun h=>?_,fun s h=>?_⟩⟩))
  ·rw[h] at hn
   exact aI (hn rfl)
  ·rw[h] at hn hs
   obtain⟨hs0,hs1⟩:=qAr h
   have hlen:=qEg s (gRg p.rg i).2 lF lA
   have hle:=qHj hs0 hs1 (gRg p.rg i).2 lF lA hg.x hlF hlA hcF hcA
   have ih:=qNs c p hp k u hR hu0 hu ls m Q d (i+1) (xU (yL (gRg p.rg i).1 s) kl ml (gRg p.rg i).2).1 (xU (yL (gRg p.rg i).1 s) kl ml (gRg p.rg i).2).2 (qAv s (gRg p.rg i).2 lF lA).1 (qAv s (gRg p.rg i).2 lF lA).2 (ss++[s]) (by omega) (qUp _ _ _ _ hl) (by rw[hlen.1]; exact hlF) (by rw[hlen.2]; exact hlA) hle.1 hle.2 (by rw[List.length_append,List.length_singleton]; omega) hn hs
   refine aI (aI (And.intro (fun _=>by omega) ?_))
   refine FOk.loop ((gRg p.rg i).2.length+1) (by kernel_rfl) ?_
   exact FOk.cv (qHy c p hp k u hR hu0 hu ls m (ss++[s]).length (xU (yL (gRg p.rg i).1 s) kl ml (gRg p.rg i).2).1 (xU (yL (gRg p.rg i).1 s) kl ml (gRg p.rg i).2).2 (ss++[s]) i hi s hs0 hs1 (d+1) Q (gRg p.rg i).2.length 0 lF lA (by omega) hlF hlA hcF hcA ih) ⟨HE.refl _,HE.refl _,HE.refl _,HE.refl _,HE.refl _,HE.refl _,HE.refl _,HE.refl _,⟨rfl,rfl,by rw[List.length_append]; rfl,qEr s rfl⟩,HE.refl _,HE.refl _,HE.refl _,HE.refl _,HE.refl _,HE.refl _,HE.refl _,HE.refl _,HE.refl _,HE.refl _,HE.refl _,trivial⟩
end Go.Proofs.YtlmjdcbhpffanaaGreat
/- Layout. -/
namespace Go.Proofs.YtlmjdcbhpffanaaGreat
open Go.Sx Go.Pl
set_option linter.unusedVariables false
set_option maxRecDepth 100000
theorem zRn(c:Cir)(p:Pln)(k:Int)(gF gA:Nat→Nat×(Nat→Nat→qB))(nF nA:Nat)(u:Int)(ls:List (List Nat))(m i M:Nat)(K:List It→St→Prop)(R:SV→List HO→Prop):W (xwp Tryz.prog X qLt [] 60 (qO Tryz.f12 [] [⟨[0,1,0,1,1,1,1],[49,48,47,11,10,6,5,3],[]⟩,⟨[0,1,0,1,1,1,1,1],[64,63,62,11,10,6,5,3],[]⟩,⟨[0,1,0,1,1,1,1,1,1,1,1,1],[93,92,91,18,17,16,11,10,6,5,3],[]⟩,⟨[0,1,1,1,1,1,0,0,1,1,0,0,1,0,1,1,1,1,1,1,1,1,1],[114,113,112,21,93,92,91,18,17,16,11,10,6,5,3],[]⟩,⟨[0,1,0,1,1,1,1,1,1,1,1,1,1,1],[144,143,142,26,18,11,6,5,3],[]⟩]) [] (.at [0,0,1,0,1,1,1,1]::.rnd [0,0,1,0,1,1,1,1] M::[.blk 0,.at [1,1,1,1,1]]) (St.mk [(49,.v (qA (i:Int))),(48,.v (qA (↑p.4.length:Int))),(47,.x 0 []),(11,.p 1 0),(10,.v (qA u)),(6,.p 2 0),(5,.p 3 0),(3,.p 4 0)] [.ext false (.s false 1 p.4.length (cT p.4)),.cells [.o 5,.o 6,.o 7,.o 8] 42,.cells [.v (Value.slice none 0 0),.v (Value.slice none 0 0),.v (Value.slice none 0 0),.v (Value.slice none 0 0)] 42,.cells [.x 9 [],.x 10 [],.x 11 [],.x 0 []] 33,.cells [.v (qA c.1),.v (qA c.2),.v (qA c.3),.x 12 [],.x 13 [],.x 14 [],.x 15 []] 27,HO.tbl 67 53 4 nF gF none,HO.tbl 67 53 4 nA gA none,.rowc 67 1 m (.fn (cT ls)),.rowc 101 4 0 (.lit 1 []),.ext false (.s false 2 p.1.length (cRg p.1)),.ext false (.s false 2 p.2.length (cTa p.2)),.ext false (.s false 6 p.3.length (cLk p.3)),.ext false (.s false 7 c.4.length (cN c.4)),.ext false (.s false 1 c.5.length (cI c.5)),.ext false (.s false 2 c.6.length (cL c.6)),.ext false (.s false 2 c.7.length (cK c.7))]) K R)=W (bif decide ((↑i:Int)<(↑p.4.length:Int)) then(∀ M:Mem,(0:Int)≤(↑i:Int)∧(↑i:Int)<(↑p.4.length:Int))∧(∀ M:Mem,i<List.length p.4)∧(∀ M:Mem,i<List.length p.4)∧∃(l:List Nat),List.length (gT p.4 i)=List.length l∧IsC (List.length (gT p.4 i)) 4 (cE (gT p.4 i)) (cE l)∧List.length l*32≤140737488351232∧(∀ M:Mem,(m+1)*24≤140737488355328∧m+1≤140737488355328)∧(∀ M:Mem,2+1≤4)∧K [.rnd [0,0,1,0,1,1,1,1] M,.blk 0,.at [1,1,1,1,1]] (St.mk [(49,.v (qA (IntKind.wrap .i64 ((↑i:Int)+(1:Int))))),(48,.v (qA (↑p.4.length:Int))),(47,.x 0 []),(11,.p 1 0),(10,.v (qA u)),(6,.p 2 0),(5,.p 3 0),(3,.p 4 0)] [.ext false (.s false 1 p.4.length (cT p.4)),.cells [.o 5,.o 6,.o 7,.o 8] 42,.cells [.v (Value.slice none 0 0),.v (Value.slice none 0 0),.v (Value.slice none 0 0),.v (Value.slice none 0 0)] 42,.cells [.x 9 [],.x 10 [],.x 11 [],.x 0 []] 33,.cells [.v (qA c.1),.v (qA c.2),.v (qA c.3),.x 12 [],.x 13 [],.x 14 [],.x 15 []] 27,HO.tbl 67 53 4 nF gF none,HO.tbl 67 53 4 nA gA none,.rowc 67 1 (m+1) (.app m (.fn (cT ls)) (.lit 1 [.s false 4 l.length (cE l)])),.rowc 101 4 0 (.lit 1 []),.ext false (.s false 2 p.1.length (cRg p.1)),.ext false (.s false 2 p.2.length (cTa p.2)),.ext false (.s false 6 p.3.length (cLk p.3)),.ext false (.s false 7 c.4.length (cN c.4)),.ext false (.s false 1 c.5.length (cI c.5)),.ext false (.s false 2 c.6.length (cL c.6)),.ext false (.s false 2 c.7.length (cK c.7))]) else K [.at [0,1,0,1,1,1,1,1],.blk 2,.at [1,1,1,1,1,1]] (St.mk [(64,.v (qA 0)),(63,.v (qA (↑p.2.length:Int))),(62,.x 0 []),(11,.p 1 0),(10,.v (qA u)),(6,.p 2 0),(5,.p 3 0),(3,.p 4 0)] [.ext false (.s false 2 p.2.length (cTa p.2)),.cells [.o 5,.o 6,.o 7,.o 8] 42,.cells [.v (Value.slice none 0 0),.v (Value.slice none 0 0),.v (Value.slice none 0 0),.v (Value.slice none 0 0)] 42,.cells [.x 9 [],.x 0 [],.x 10 [],.x 11 []] 33,.cells [.v (qA c.1),.v (qA c.2),.v (qA c.3),.x 12 [],.x 13 [],.x 14 [],.x 15 []] 27,HO.tbl 67 53 4 nF gF none,HO.tbl 67 53 4 nA gA none,.rowc 67 1 m (.fn (cT ls)),.rowc 101 4 0 (.lit 1 []),.ext false (.s false 2 p.1.length (cRg p.1)),.ext false (.s false 6 p.3.length (cLk p.3)),.ext false (.s false 1 p.4.length (cT p.4)),.ext false (.s false 7 c.4.length (cN c.4)),.ext false (.s false 1 c.5.length (cI c.5)),.ext false (.s false 2 c.6.length (cL c.6)),.ext false (.s false 2 c.7.length (cK c.7))])):=by kernel_rfl
theorem zIq(c:Cir)(p:Pln)(k:Int)(gF gA:Nat→Nat×(Nat→Nat→qB))(nF nA:Nat)(u:Int)(ls:List (List Nat))(m i M:Nat)(K:List It→St→Prop)(R:SV→List HO→Prop):W (xwp Tryz.prog X qLt [] 60 (qO Tryz.f12 [] [⟨[0,1,0,1,1,1,1],[49,48,47,11,10,6,5,3],[]⟩,⟨[0,1,0,1,1,1,1,1],[64,63,62,11,10,6,5,3],[]⟩,⟨[0,1,0,1,1,1,1,1,1,1,1,1],[93,92,91,18,17,16,11,10,6,5,3],[]⟩,⟨[0,1,1,1,1,1,0,0,1,1,0,0,1,0,1,1,1,1,1,1,1,1,1],[114,113,112,21,93,92,91,18,17,16,11,10,6,5,3],[]⟩,⟨[0,1,0,1,1,1,1,1,1,1,1,1,1,1],[144,143,142,26,18,11,6,5,3],[]⟩]) [] (.at [0,0,1,0,1,1,1,1,1]::.rnd [0,0,1,0,1,1,1,1,1] M::[.blk 2,.at [1,1,1,1,1,1]]) (St.mk [(64,.v (qA (i:Int))),(63,.v (qA (↑p.2.length:Int))),(62,.x 0 []),(11,.p 1 0),(10,.v (qA u)),(6,.p 2 0),(5,.p 3 0),(3,.p 4 0)] [.ext false (.s false 2 p.2.length (cTa p.2)),.cells [.o 5,.o 6,.o 7,.o 8] 42,.cells [.v (Value.slice none 0 0),.v (Value.slice none 0 0),.v (Value.slice none 0 0),.v (Value.slice none 0 0)] 42,.cells [.x 9 [],.x 0 [],.x 10 [],.x 11 []] 33,.cells [.v (qA c.1),.v (qA c.2),.v (qA c.3),.x 12 [],.x 13 [],.x 14 [],.x 15 []] 27,HO.tbl 67 53 4 nF gF none,HO.tbl 67 53 4 nA gA none,.rowc 67 1 m (.fn (cT ls)),.rowc 101 4 0 (.lit 1 []),.ext false (.s false 2 p.1.length (cRg p.1)),.ext false (.s false 6 p.3.length (cLk p.3)),.ext false (.s false 1 p.4.length (cT p.4)),.ext false (.s false 7 c.4.length (cN c.4)),.ext false (.s false 1 c.5.length (cI c.5)),.ext false (.s false 2 c.6.length (cL c.6)),.ext false (.s false 2 c.7.length (cK c.7))]) K R)=W (bif decide ((↑i:Int)<(↑p.2.length:Int)) then(∀ M:Mem,(0:Int)≤(↑i:Int)∧(↑i:Int)<(↑p.2.length:Int))∧(∀ M:Mem,i<List.length p.2)∧(∀ M:Mem,0+2≤2)∧(∀ M:Mem,i<List.length p.2)∧bif decide (u<(↑(List.length (gTa p.2 i).2):Int)) then(∀ M:Mem,4≤4)∧R (.tup [.agg [.v (Value.slice none 0 0),.v (Value.slice none 0 0),.v (Value.slice none 0 0),.v (Value.slice none 0 0)],.v (Value.slice none 0 0),.v (qA 141)]) [] else(∀ M:Mem,i<List.length p.2)∧∃(l:List Nat),List.length (gTa p.2 i).2=List.length l∧IsC (List.length (gTa p.2 i).2) 4 (cE (gTa p.2 i).2) (cE l)∧List.length l*32≤140737488351232∧(∀ M:Mem,(0:Int)≤(gTa p.2 i).1∧(gTa p.2 i).1<(↑nF:Int))∧(∀ M:Mem,Int.toNat (gTa p.2 i).1<nF)∧(∀ M:Mem,True)∧K [.rnd [0,0,1,0,1,1,1,1,1] M,.blk 2,.at [1,1,1,1,1,1]] (St.mk [(64,.v (qA (IntKind.wrap .i64 ((↑i:Int)+(1:Int))))),(63,.v (qA (↑p.2.length:Int))),(62,.x 0 []),(11,.p 1 0),(10,.v (qA u)),(6,.p 2 0),(5,.p 3 0),(3,.p 4 0)] [.ext false (.s false 2 p.2.length (cTa p.2)),.cells [.o 5,.o 6,.o 7,.o 8] 42,.cells [.v (Value.slice none 0 0),.v (Value.slice none 0 0),.v (Value.slice none 0 0),.v (Value.slice none 0 0)] 42,.cells [.x 9 [],.x 0 [],.x 10 [],.x 11 []] 33,.cells [.v (qA c.1),.v (qA c.2),.v (qA c.3),.x 12 [],.x 13 [],.x 14 [],.x 15 []] 27,HO.tbl 67 53 4 nF gF (some (Int.toNat (gTa p.2 i).1,16)),HO.tbl 67 53 4 nA gA none,.rowc 67 1 m (.fn (cT ls)),.rowc 101 4 0 (.lit 1 []),.ext false (.s false 2 p.1.length (cRg p.1)),.ext false (.s false 6 p.3.length (cLk p.3)),.ext false (.s false 1 p.4.length (cT p.4)),.ext false (.s false 7 c.4.length (cN c.4)),.ext false (.s false 1 c.5.length (cI c.5)),.ext false (.s false 2 c.6.length (cL c.6)),.ext false (.s false 2 c.7.length (cK c.7)),.rowc 53 4 l.length (.fn (cE l))]) else K [.at [0,1,0,1,1,1,1,1,1,1,1,1],.blk 4,.at [1,1,1,1,1,1,1,1,1,1]] (St.mk [(93,.v (qA 0)),(92,.v (qA (↑p.1.length:Int))),(91,.x 0 []),(18,.p 1 0),(17,.m 2),(16,.m 3),(11,.p 4 0),(10,.v (qA u)),(6,.p 5 0),(5,.p 6 0),(3,.p 7 0)] [.ext false (.s false 2 p.1.length (cRg p.1)),.cells [.v (Value.slice none 0 0)] 23,.mp true [IntKind.i64,IntKind.i64] [] (Mc.ints IntKind.u64 []),.mp false [IntKind.i64] [[(2:Int)],[(3:Int)]] (Mc.svs [.o 8,.o 9]),.cells [.o 8,.o 9,.o 10,.o 11] 42,.cells [.v (Value.slice none 0 0),.v (Value.slice none 0 0),.v (Value.slice none 0 0),.v (Value.slice none 0 0)] 42,.cells [.x 0 [],.x 12 [],.x 13 [],.x 14 []] 33,.cells [.v (qA c.1),.v (qA c.2),.v (qA c.3),.x 15 [],.x 16 [],.x 17 [],.x 18 []] 27,HO.tbl 67 53 4 nF gF none,HO.tbl 67 53 4 nA gA none,.rowc 67 1 m (.fn (cT ls)),.rowc 101 4 0 (.lit 1 []),.ext false (.s false 2 p.2.length (cTa p.2)),.ext false (.s false 6 p.3.length (cLk p.3)),.ext false (.s false 1 p.4.length (cT p.4)),.ext false (.s false 7 c.4.length (cN c.4)),.ext false (.s false 1 c.5.length (cI c.5)),.ext false (.s false 2 c.6.length (cL c.6)),.ext false (.s false 2 c.7.length (cK c.7))])):=by kernel_rfl
theorem qOg(c:Cir)(p:Pln)(hp:p.ok)(k u:Int)(gF gA:Nat→Nat×(Nat→Nat→qB))(nF nA:Nat)(Q:SV→List HO→Prop)(hq:FOk Tryz.prog Tryz.f12 Q (.at [0,1,0,1,1,1,1,1]::[.blk 2,.at [1,1,1,1,1,1]]) (St.mk [(64,SV.v (qA (0:Int))),(63,SV.v (qA (↑(List.length p.2):Int))),(62,SV.x 0 []),(11,SV.p 1 0),(10,SV.v (qA u)),(6,SV.p 2 0),(5,SV.p 3 0),(3,SV.p 4 0)] [HO.ext false (qB.s false 2 (List.length p.2) (cTa p.2)),HO.cells [SV.o 5,SV.o 6,SV.o 7,SV.o 8] 42,HO.cells [SV.v (Value.slice none 0 0),SV.v (Value.slice none 0 0),SV.v (Value.slice none 0 0),SV.v (Value.slice none 0 0)] 42,HO.cells [SV.x 9 [],SV.x 0 [],SV.x 10 [],SV.x 11 []] 33,HO.cells [SV.v (qA c.1),SV.v (qA c.2),SV.v (qA c.3),SV.x 12 [],SV.x 13 [],SV.x 14 [],SV.x 15 []] 27,HO.tbl 67 53 4 nF gF none,HO.tbl 67 53 4 nA gA none,HO.rowc 67 1 p.is.length (Ct.fn (cT p.is)),HO.rowc 101 4 0 (Ct.lit 1 []),HO.ext false (qB.s false 2 (List.length p.1) (cRg p.1)),HO.ext false (qB.s false 6 (List.length p.3) (cLk p.3)),HO.ext false (qB.s false 1 (List.length p.4) (cT p.4)),HO.ext false (qB.s false 7 (List.length c.4) (cN c.4)),HO.ext false (qB.s false 1 (List.length c.5) (cI c.5)),HO.ext false (qB.s false 2 (List.length c.6) (cL c.6)),HO.ext false (qB.s false 2 (List.length c.7) (cK c.7))])):∀(d i:Nat) (ls:List (List Nat)),i+d=p.is.length→ls=p.is.take i →
  FOk Tryz.prog Tryz.f12 Q (.rnd [0,0,1,0,1,1,1,1] (d+1)::[.blk 0,.at [1,1,1,1,1]]) (St.mk [(49,SV.v (qA (i:Int))),(48,SV.v (qA (↑(List.length p.4):Int))),(47,SV.x 0 []),(11,SV.p 1 0),(10,SV.v (qA u)),(6,SV.p 2 0),(5,SV.p 3 0),(3,SV.p 4 0)] [HO.ext false (qB.s false 1 (List.length p.4) (cT p.4)),HO.cells [SV.o 5,SV.o 6,SV.o 7,SV.o 8] 42,HO.cells [SV.v (Value.slice none 0 0),SV.v (Value.slice none 0 0),SV.v (Value.slice none 0 0),SV.v (Value.slice none 0 0)] 42,HO.cells [SV.x 9 [],SV.x 10 [],SV.x 11 [],SV.x 0 []] 33,HO.cells [SV.v (qA c.1),SV.v (qA c.2),SV.v (qA c.3),SV.x 12 [],SV.x 13 [],SV.x 14 [],SV.x 15 []] 27,HO.tbl 67 53 4 nF gF none,HO.tbl 67 53 4 nA gA none,HO.rowc 67 1 ls.length (Ct.fn (cT ls)),HO.rowc 101 4 0 (Ct.lit 1 []),HO.ext false (qB.s false 2 (List.length p.1) (cRg p.1)),HO.ext false (qB.s false 2 (List.length p.2) (cTa p.2)),HO.ext false (qB.s false 6 (List.length p.3) (cLk p.3)),HO.ext false (qB.s false 7 (List.length c.4) (cN c.4)),HO.ext false (qB.s false 1 (List.length c.5) (cI c.5)),HO.ext false (qB.s false 2 (List.length c.6) (cL c.6)),HO.ext false (qB.s false 2 (List.length c.7) (cK c.7))])
 | 0,i,ls,hd,hl=>by
  refine FOk.rnd (qC hm 60 ((zRn c p k gF gA nF nA u ls ls.length i 0 _ _).mpr ⟨?_⟩))
  rw[qD,if_neg (by omega)]
  obtain rfl:ls=p.is:=by rw[hl,show i=p.is.length by omega,List.take_length]
  exact hq
 | d+1,i,ls,hd,hl=>by
  have hi:i<p.is.length:=by omega
  have hlen:ls.length=i:=by rw[hl,List.length_take]; omega
  have hb:=hp.i.2
  have hb2:=(hp.i.1 _ (qKu hi)).2
  have ih:=qOg c p hp k u gF gA nF nA Q hq d (i+1) (ls++[gT p.is i]) (by omega) (by rw[hl,qRj hi])
  refine FOk.rnd (qC hm 60 ((zRn c p k gF gA nF nA u ls ls.length i (d+1) _ _).mpr ⟨?_⟩))
  rw[qD,if_pos (by omega),qK _ (by omega)]
  refine aI (aI (And.intro (fun _=>by omega) ⟨gT p.is i,rfl,IsC.refl _ _ _,hb2,fun _=>by omega,fun _=>by omega,?_⟩))
  exact FOk.cv ih ⟨HE.refl _,HE.refl _,HE.refl _,HE.refl _,HE.refl _,HE.refl _,HE.refl _,⟨rfl,rfl,by rw[List.length_append]; rfl,qZb _ rfl⟩,HE.refl _,HE.refl _,HE.refl _,HE.refl _,HE.refl _,HE.refl _,HE.refl _,HE.refl _,trivial⟩
theorem qPd(c:Cir)(p:Pln)(hp:p.ok)(k u:Int)(hR:plR c p u)(gA:Nat→Nat×(Nat→Nat→qB))(nA m:Nat)(ls:List (List Nat))(hu:u≤1000000)(Q:SV→List HO→Prop):∀(d i:Nat) (lF:List (List Nat)),i+d=p.tb.length→lF.length=c.fx.toNat→(xW u (p.tb.drop i) lF=none→Q (SV.tup [SV.agg [SV.v (Value.slice none 0 0),SV.v (Value.slice none 0 0),SV.v (Value.slice none 0 0),SV.v (Value.slice none 0 0)],SV.v (Value.slice none 0 0),SV.v (qA (141:Int))]) []) →
  (∀ lF',xW u (p.tb.drop i) lF=some lF'→lF'.length=c.fx.toNat→FOk Tryz.prog Tryz.f12 Q (.at [0,1,0,1,1,1,1,1,1,1,1,1]::[.blk 4,.at [1,1,1,1,1,1,1,1,1,1]]) (St.mk [(93,SV.v (qA (0:Int))),(92,SV.v (qA (↑(List.length p.1):Int))),(91,SV.x 0 []),(18,SV.p 1 0),(17,SV.m 2),(16,SV.m 3),(11,SV.p 4 0),(10,SV.v (qA u)),(6,SV.p 5 0),(5,SV.p 6 0),(3,SV.p 7 0)] [HO.ext false (qB.s false 2 (List.length p.1) (cRg p.1)),HO.cells [SV.v (Value.slice none 0 0)] 23,HO.mp true [IntKind.i64,IntKind.i64] [] (Mc.ints IntKind.u64 []),HO.mp false [IntKind.i64] [[(2:Int)],[(3:Int)]] (Mc.svs [SV.o 8,SV.o 9]),HO.cells [SV.o 8,SV.o 9,SV.o 10,SV.o 11] 42,HO.cells [SV.v (Value.slice none 0 0),SV.v (Value.slice none 0 0),SV.v (Value.slice none 0 0),SV.v (Value.slice none 0 0)] 42,HO.cells [SV.x 0 [],SV.x 12 [],SV.x 13 [],SV.x 14 []] 33,HO.cells [SV.v (qA c.1),SV.v (qA c.2),SV.v (qA c.3),SV.x 15 [],SV.x 16 [],SV.x 17 [],SV.x 18 []] 27,HO.tbl 67 53 4 lF'.length (tC lF') none,HO.tbl 67 53 4 nA gA none,HO.rowc 67 1 m (Ct.fn (cT ls)),HO.rowc 101 4 0 (Ct.lit 1 []),HO.ext false (qB.s false 2 (List.length p.2) (cTa p.2)),HO.ext false (qB.s false 6 (List.length p.3) (cLk p.3)),HO.ext false (qB.s false 1 (List.length p.4) (cT p.4)),HO.ext false (qB.s false 7 (List.length c.4) (cN c.4)),HO.ext false (qB.s false 1 (List.length c.5) (cI c.5)),HO.ext false (qB.s false 2 (List.length c.6) (cL c.6)),HO.ext false (qB.s false 2 (List.length c.7) (cK c.7))])) →
  FOk Tryz.prog Tryz.f12 Q (.rnd [0,0,1,0,1,1,1,1,1] (d+1)::[.blk 2,.at [1,1,1,1,1,1]]) (St.mk [(64,SV.v (qA (i:Int))),(63,SV.v (qA (↑(List.length p.2):Int))),(62,SV.x 0 []),(11,SV.p 1 0),(10,SV.v (qA u)),(6,SV.p 2 0),(5,SV.p 3 0),(3,SV.p 4 0)] [HO.ext false (qB.s false 2 (List.length p.2) (cTa p.2)),HO.cells [SV.o 5,SV.o 6,SV.o 7,SV.o 8] 42,HO.cells [SV.v (Value.slice none 0 0),SV.v (Value.slice none 0 0),SV.v (Value.slice none 0 0),SV.v (Value.slice none 0 0)] 42,HO.cells [SV.x 9 [],SV.x 0 [],SV.x 10 [],SV.x 11 []] 33,HO.cells [SV.v (qA c.1),SV.v (qA c.2),SV.v (qA c.3),SV.x 12 [],SV.x 13 [],SV.x 14 [],SV.x 15 []] 27,HO.tbl 67 53 4 lF.length (tC lF) none,HO.tbl 67 53 4 nA gA none,HO.rowc 67 1 m (Ct.fn (cT ls)),HO.rowc 101 4 0 (Ct.lit 1 []),HO.ext false (qB.s false 2 (List.length p.1) (cRg p.1)),HO.ext false (qB.s false 6 (List.length p.3) (cLk p.3)),HO.ext false (qB.s false 1 (List.length p.4) (cT p.4)),HO.ext false (qB.s false 7 (List.length c.4) (cN c.4)),HO.ext false (qB.s false 1 (List.length c.5) (cI c.5)),HO.ext false (qB.s false 2 (List.length c.6) (cL c.6)),HO.ext false (qB.s false 2 (List.length c.7) (cK c.7))])
 | 0,i,lF,hd,hl,hn,hs=>by
  refine FOk.rnd (qC hm 60 ((zIq c p k (tC lF) gA lF.length nA u ls m i 0 _ _).mpr ⟨?_⟩))
  rw[qD,if_neg (by omega)]
  exact hs lF (by rw[show i=p.tb.length by omega,List.drop_length]; rfl) hl
 | d+1,i,lF,hd,hl,hn,hs=>by
  have hi:i<p.tb.length:=by omega
  rw[qEd hi,xW] at hn hs
  have hb:=hp.t.2
  have hb2:=(hp.t.1 _ (wY hi)).2.2
  have hc:=hR.t _ (wY hi)
  refine FOk.rnd (qC hm 60 ((zIq c p k (tC lF) gA lF.length nA u ls m i (d+1) _ _).mpr ⟨?_⟩))
  rw[qD,if_pos (by omega),qD,qK _ (by omega)]
  refine aI (aI (aI (aI (qG (fun h=>?_) (fun h=>?_)))))
  ·rw[if_pos h] at hn
   exact aI (hn rfl)
  ·rw[if_neg h] at hn hs
   refine And.intro (fun _=>by omega) ⟨(gTa p.tb i).2,rfl,IsC.refl _ _ _,hb2,fun _=>by omega,fun _=>by omega,fun _=>trivial,?_⟩
   have hk:(gTa p.tb i).1.toNat<lF.length:=by omega
   have ih:=qPd c p hp k u hR gA nA m ls hu Q d (i+1) (lF.set (gTa p.tb i).1.toNat (gTa p.tb i).2) (by omega) (by rw[List.length_set]; exact hl) hn hs
   rw[List.length_set] at ih
   refine FOk.unfocus 5 16 _ rfl rfl (by decide) ?_
   rw[qEn hk (gTa p.tb i).2]
   exact FOk.norm (ks:=[64,63,62,11,10,6,5,3]) (nl:=[]) (by kernel_rfl) ih
end Go.Proofs.YtlmjdcbhpffanaaGreat
