/- The texts Z9 .. Z55 of this proof, one behind the other. -/
import Derived.Test.YtlmjdcbhpffanaaGreatM1
import Derived.Lib.Mul64
/- The document's side: the check, the degrees. -/
namespace Go.Pl
open Go.Sx
end Go.Pl
namespace Go.Proofs.YtlmjdcbhpffanaaGreat
open Go.Sx Go.Pl
set_option linter.unusedVariables false
set_option maxRecDepth 100000
theorem rc1(b:Bool)(l:List Nd)(n k M:Nat)(f a i:Int)(K:List It→St→Prop)(R:SV→List HO→Prop):W (xwp Tryz.prog X K8 [(114,[])] 60 (qO Tryz.f75 [] [⟨[0,1,0,1,1,1],[10,9,0],[]⟩]) [.as 33 (.agg [.v (.int .i64 1),.v (.int .i64 (gN l k).a),.v (.int .i64 (gN l k).b),.v (.int .u64 (qF (gN l k).v 0:Nat)),.v (.int .u64 (qF (gN l k).v 1:Nat)),.v (.int .u64 (qF (gN l k).v 2:Nat)),.v (.int .u64 (qF (gN l k).v 3:Nat))])] (.at [0,0,1,0,1,1,1]::.rnd [0,0,1,0,1,1,1] M::[.blk 0,.at [1,1,1,1]]) ⟨[(10,.v (.int .i64 (k:Int))),(9,.p 0 0),(0,.x 1 [])],[.cells [.v (.int .i64 f),.v (.int .i64 a),.v (.int .i64 i)] 140,.ext b (.s false 7 n (cN l))]⟩ K R)=W (bif decide ((↑k:Int)<(↑n:Int)) then(∀ M:Mem,(0:Int)≤(↑k:Int)∧(↑k:Int)<(↑n:Int))∧(∀ M:Mem,k<n)∧(∀ M:Mem,Value.agg (Array.mk [qA (gN l k).1,qA (gN l k).2,qA (gN l k).3,qE (↑(qF (gN l k).4 0):Int),qE (↑(qF (gN l k).4 1):Int),qE (↑(qF (gN l k).4 2):Int),qE (↑(qF (gN l k).4 3):Int)])=Value.agg (Array.mk [qA 1,qA (gN l k).2,qA (gN l k).3,qE (↑(qF (gN l k).4 0):Int),qE (↑(qF (gN l k).4 1):Int),qE (↑(qF (gN l k).4 2):Int),qE (↑(qF (gN l k).4 3):Int)]))∧(∀ M:Mem,0+7≤7)∧K [.rnd [0,0,1,0,1,1,1] M,.blk 0,.at [1,1,1,1]] (St.mk [(10,.v (qA (IntKind.wrap .i64 ((↑k:Int)+(1:Int))))),(9,.p 0 0),(0,.x 1 [])] [.cells [.v (qA f),.v (qA a),.v (qA i)] 140,.ext b (.s false 7 n (cN l))]) else R (.v (qA 0)) []):=by kernel_rfl
theorem rc2(b:Bool)(l:List Nd)(n k M:Nat)(f a i:Int)(K:List It→St→Prop)(R:SV→List HO→Prop):W (xwp Tryz.prog X K8 [(114,[])] 60 (qO Tryz.f75 [] [⟨[0,1,0,1,1,1],[10,9,0],[]⟩]) [.as 33 (.agg [.v (.int .i64 2),.v (.int .i64 (gN l k).a),.v (.int .i64 (gN l k).b),.v (.int .u64 (qF (gN l k).v 0:Nat)),.v (.int .u64 (qF (gN l k).v 1:Nat)),.v (.int .u64 (qF (gN l k).v 2:Nat)),.v (.int .u64 (qF (gN l k).v 3:Nat))])] (.at [0,0,1,0,1,1,1]::.rnd [0,0,1,0,1,1,1] M::[.blk 0,.at [1,1,1,1]]) ⟨[(10,.v (.int .i64 (k:Int))),(9,.p 0 0),(0,.x 1 [])],[.cells [.v (.int .i64 f),.v (.int .i64 a),.v (.int .i64 i)] 140,.ext b (.s false 7 n (cN l))]⟩ K R)=W (bif decide ((↑k:Int)<(↑n:Int)) then(∀ M:Mem,(0:Int)≤(↑k:Int)∧(↑k:Int)<(↑n:Int))∧(∀ M:Mem,k<n)∧(∀ M:Mem,Value.agg (Array.mk [qA (gN l k).1,qA (gN l k).2,qA (gN l k).3,qE (↑(qF (gN l k).4 0):Int),qE (↑(qF (gN l k).4 1):Int),qE (↑(qF (gN l k).4 2):Int),qE (↑(qF (gN l k).4 3):Int)])=Value.agg (Array.mk [qA 2,qA (gN l k).2,qA (gN l k).3,qE (↑(qF (gN l k).4 0):Int),qE (↑(qF (gN l k).4 1):Int),qE (↑(qF (gN l k).4 2):Int),qE (↑(qF (gN l k).4 3):Int)]))∧(∀ M:Mem,0+7≤7)∧bif decide ((gN l k).2<(0:Int)) then R (.v (qA 110)) [] else(∀ M:Mem,(0:Int)≤(0:Int)∧(0:Int)<(3:Int))∧bif decide (f≤(gN l k).2) then R (.v (qA 110)) [] else bif decide ((gN l k).3<(-3:Int)) then R (.v (qA 110)) [] else bif decide ((3:Int)<(gN l k).3) then R (.v (qA 110)) [] else K [.rnd [0,0,1,0,1,1,1] M,.blk 0,.at [1,1,1,1]] (St.mk [(10,.v (qA (IntKind.wrap .i64 ((↑k:Int)+(1:Int))))),(9,.p 0 0),(0,.x 1 [])] [.cells [.v (qA f),.v (qA a),.v (qA i)] 140,.ext b (.s false 7 n (cN l))]) else R (.v (qA 0)) []):=by kernel_rfl
theorem rc3(b:Bool)(l:List Nd)(n k M:Nat)(f a i:Int)(K:List It→St→Prop)(R:SV→List HO→Prop):W (xwp Tryz.prog X K8 [(114,[])] 60 (qO Tryz.f75 [] [⟨[0,1,0,1,1,1],[10,9,0],[]⟩]) [.as 33 (.agg [.v (.int .i64 3),.v (.int .i64 (gN l k).a),.v (.int .i64 (gN l k).b),.v (.int .u64 (qF (gN l k).v 0:Nat)),.v (.int .u64 (qF (gN l k).v 1:Nat)),.v (.int .u64 (qF (gN l k).v 2:Nat)),.v (.int .u64 (qF (gN l k).v 3:Nat))])] (.at [0,0,1,0,1,1,1]::.rnd [0,0,1,0,1,1,1] M::[.blk 0,.at [1,1,1,1]]) ⟨[(10,.v (.int .i64 (k:Int))),(9,.p 0 0),(0,.x 1 [])],[.cells [.v (.int .i64 f),.v (.int .i64 a),.v (.int .i64 i)] 140,.ext b (.s false 7 n (cN l))]⟩ K R)=W (bif decide ((↑k:Int)<(↑n:Int)) then(∀ M:Mem,(0:Int)≤(↑k:Int)∧(↑k:Int)<(↑n:Int))∧(∀ M:Mem,k<n)∧(∀ M:Mem,Value.agg (Array.mk [qA (gN l k).1,qA (gN l k).2,qA (gN l k).3,qE (↑(qF (gN l k).4 0):Int),qE (↑(qF (gN l k).4 1):Int),qE (↑(qF (gN l k).4 2):Int),qE (↑(qF (gN l k).4 3):Int)])=Value.agg (Array.mk [qA 3,qA (gN l k).2,qA (gN l k).3,qE (↑(qF (gN l k).4 0):Int),qE (↑(qF (gN l k).4 1):Int),qE (↑(qF (gN l k).4 2):Int),qE (↑(qF (gN l k).4 3):Int)]))∧(∀ M:Mem,0+7≤7)∧bif decide ((gN l k).2<(0:Int)) then R (.v (qA 110)) [] else(∀ M:Mem,(0:Int)≤(1:Int)∧(1:Int)<(3:Int))∧bif decide (a≤(gN l k).2) then R (.v (qA 110)) [] else bif decide ((gN l k).3<(-3:Int)) then R (.v (qA 110)) [] else bif decide ((3:Int)<(gN l k).3) then R (.v (qA 110)) [] else K [.rnd [0,0,1,0,1,1,1] M,.blk 0,.at [1,1,1,1]] (St.mk [(10,.v (qA (IntKind.wrap .i64 ((↑k:Int)+(1:Int))))),(9,.p 0 0),(0,.x 1 [])] [.cells [.v (qA f),.v (qA a),.v (qA i)] 140,.ext b (.s false 7 n (cN l))]) else R (.v (qA 0)) []):=by kernel_rfl
theorem rc4(b:Bool)(l:List Nd)(n k M:Nat)(f a i:Int)(K:List It→St→Prop)(R:SV→List HO→Prop):W (xwp Tryz.prog X K8 [(114,[])] 60 (qO Tryz.f75 [] [⟨[0,1,0,1,1,1],[10,9,0],[]⟩]) [.as 33 (.agg [.v (.int .i64 4),.v (.int .i64 (gN l k).a),.v (.int .i64 (gN l k).b),.v (.int .u64 (qF (gN l k).v 0:Nat)),.v (.int .u64 (qF (gN l k).v 1:Nat)),.v (.int .u64 (qF (gN l k).v 2:Nat)),.v (.int .u64 (qF (gN l k).v 3:Nat))])] (.at [0,0,1,0,1,1,1]::.rnd [0,0,1,0,1,1,1] M::[.blk 0,.at [1,1,1,1]]) ⟨[(10,.v (.int .i64 (k:Int))),(9,.p 0 0),(0,.x 1 [])],[.cells [.v (.int .i64 f),.v (.int .i64 a),.v (.int .i64 i)] 140,.ext b (.s false 7 n (cN l))]⟩ K R)=W (bif decide ((↑k:Int)<(↑n:Int)) then(∀ M:Mem,(0:Int)≤(↑k:Int)∧(↑k:Int)<(↑n:Int))∧(∀ M:Mem,k<n)∧(∀ M:Mem,Value.agg (Array.mk [qA (gN l k).1,qA (gN l k).2,qA (gN l k).3,qE (↑(qF (gN l k).4 0):Int),qE (↑(qF (gN l k).4 1):Int),qE (↑(qF (gN l k).4 2):Int),qE (↑(qF (gN l k).4 3):Int)])=Value.agg (Array.mk [qA 4,qA (gN l k).2,qA (gN l k).3,qE (↑(qF (gN l k).4 0):Int),qE (↑(qF (gN l k).4 1):Int),qE (↑(qF (gN l k).4 2):Int),qE (↑(qF (gN l k).4 3):Int)]))∧(∀ M:Mem,0+7≤7)∧bif decide ((gN l k).2<(0:Int)) then R (.v (qA 110)) [] else(∀ M:Mem,(0:Int)≤(2:Int)∧(2:Int)<(3:Int))∧bif decide (i≤(gN l k).2) then R (.v (qA 110)) [] else bif decide ((gN l k).3<(-3:Int)) then R (.v (qA 110)) [] else bif decide ((3:Int)<(gN l k).3) then R (.v (qA 110)) [] else K [.rnd [0,0,1,0,1,1,1] M,.blk 0,.at [1,1,1,1]] (St.mk [(10,.v (qA (IntKind.wrap .i64 ((↑k:Int)+(1:Int))))),(9,.p 0 0),(0,.x 1 [])] [.cells [.v (qA f),.v (qA a),.v (qA i)] 140,.ext b (.s false 7 n (cN l))]) else R (.v (qA 0)) []):=by kernel_rfl
theorem rc5(b:Bool)(l:List Nd)(n k M:Nat)(f a i:Int)(K:List It→St→Prop)(R:SV→List HO→Prop):W (xwp Tryz.prog X K8 [(114,[])] 60 (qO Tryz.f75 [] [⟨[0,1,0,1,1,1],[10,9,0],[]⟩]) [.as 33 (.agg [.v (.int .i64 5),.v (.int .i64 (gN l k).a),.v (.int .i64 (gN l k).b),.v (.int .u64 (qF (gN l k).v 0:Nat)),.v (.int .u64 (qF (gN l k).v 1:Nat)),.v (.int .u64 (qF (gN l k).v 2:Nat)),.v (.int .u64 (qF (gN l k).v 3:Nat))])] (.at [0,0,1,0,1,1,1]::.rnd [0,0,1,0,1,1,1] M::[.blk 0,.at [1,1,1,1]]) ⟨[(10,.v (.int .i64 (k:Int))),(9,.p 0 0),(0,.x 1 [])],[.cells [.v (.int .i64 f),.v (.int .i64 a),.v (.int .i64 i)] 140,.ext b (.s false 7 n (cN l))]⟩ K R)=W (bif decide ((↑k:Int)<(↑n:Int)) then(∀ M:Mem,(0:Int)≤(↑k:Int)∧(↑k:Int)<(↑n:Int))∧(∀ M:Mem,k<n)∧(∀ M:Mem,Value.agg (Array.mk [qA (gN l k).1,qA (gN l k).2,qA (gN l k).3,qE (↑(qF (gN l k).4 0):Int),qE (↑(qF (gN l k).4 1):Int),qE (↑(qF (gN l k).4 2):Int),qE (↑(qF (gN l k).4 3):Int)])=Value.agg (Array.mk [qA 5,qA (gN l k).2,qA (gN l k).3,qE (↑(qF (gN l k).4 0):Int),qE (↑(qF (gN l k).4 1):Int),qE (↑(qF (gN l k).4 2):Int),qE (↑(qF (gN l k).4 3):Int)]))∧(∀ M:Mem,0+7≤7)∧K [.rnd [0,0,1,0,1,1,1] M,.blk 0,.at [1,1,1,1]] (St.mk [(10,.v (qA (IntKind.wrap .i64 ((↑k:Int)+(1:Int))))),(9,.p 0 0),(0,.x 1 [])] [.cells [.v (qA f),.v (qA a),.v (qA i)] 140,.ext b (.s false 7 n (cN l))]) else R (.v (qA 0)) []):=by kernel_rfl
theorem rc6(b:Bool)(l:List Nd)(n k M:Nat)(f a i:Int)(K:List It→St→Prop)(R:SV→List HO→Prop):W (xwp Tryz.prog X K8 [(114,[])] 60 (qO Tryz.f75 [] [⟨[0,1,0,1,1,1],[10,9,0],[]⟩]) [.as 33 (.agg [.v (.int .i64 6),.v (.int .i64 (gN l k).a),.v (.int .i64 (gN l k).b),.v (.int .u64 (qF (gN l k).v 0:Nat)),.v (.int .u64 (qF (gN l k).v 1:Nat)),.v (.int .u64 (qF (gN l k).v 2:Nat)),.v (.int .u64 (qF (gN l k).v 3:Nat))])] (.at [0,0,1,0,1,1,1]::.rnd [0,0,1,0,1,1,1] M::[.blk 0,.at [1,1,1,1]]) ⟨[(10,.v (.int .i64 (k:Int))),(9,.p 0 0),(0,.x 1 [])],[.cells [.v (.int .i64 f),.v (.int .i64 a),.v (.int .i64 i)] 140,.ext b (.s false 7 n (cN l))]⟩ K R)=W (bif decide ((↑k:Int)<(↑n:Int)) then(∀ M:Mem,(0:Int)≤(↑k:Int)∧(↑k:Int)<(↑n:Int))∧(∀ M:Mem,k<n)∧(∀ M:Mem,Value.agg (Array.mk [qA (gN l k).1,qA (gN l k).2,qA (gN l k).3,qE (↑(qF (gN l k).4 0):Int),qE (↑(qF (gN l k).4 1):Int),qE (↑(qF (gN l k).4 2):Int),qE (↑(qF (gN l k).4 3):Int)])=Value.agg (Array.mk [qA 6,qA (gN l k).2,qA (gN l k).3,qE (↑(qF (gN l k).4 0):Int),qE (↑(qF (gN l k).4 1):Int),qE (↑(qF (gN l k).4 2):Int),qE (↑(qF (gN l k).4 3):Int)]))∧(∀ M:Mem,0+7≤7)∧K [.rnd [0,0,1,0,1,1,1] M,.blk 0,.at [1,1,1,1]] (St.mk [(10,.v (qA (IntKind.wrap .i64 ((↑k:Int)+(1:Int))))),(9,.p 0 0),(0,.x 1 [])] [.cells [.v (qA f),.v (qA a),.v (qA i)] 140,.ext b (.s false 7 n (cN l))]) else R (.v (qA 0)) []):=by kernel_rfl
theorem rc7(b:Bool)(l:List Nd)(n k M:Nat)(f a i:Int)(K:List It→St→Prop)(R:SV→List HO→Prop):W (xwp Tryz.prog X K8 [(114,[])] 60 (qO Tryz.f75 [] [⟨[0,1,0,1,1,1],[10,9,0],[]⟩]) [.as 33 (.agg [.v (.int .i64 7),.v (.int .i64 (gN l k).a),.v (.int .i64 (gN l k).b),.v (.int .u64 (qF (gN l k).v 0:Nat)),.v (.int .u64 (qF (gN l k).v 1:Nat)),.v (.int .u64 (qF (gN l k).v 2:Nat)),.v (.int .u64 (qF (gN l k).v 3:Nat))])] (.at [0,0,1,0,1,1,1]::.rnd [0,0,1,0,1,1,1] M::[.blk 0,.at [1,1,1,1]]) ⟨[(10,.v (.int .i64 (k:Int))),(9,.p 0 0),(0,.x 1 [])],[.cells [.v (.int .i64 f),.v (.int .i64 a),.v (.int .i64 i)] 140,.ext b (.s false 7 n (cN l))]⟩ K R)=W (bif decide ((↑k:Int)<(↑n:Int)) then(∀ M:Mem,(0:Int)≤(↑k:Int)∧(↑k:Int)<(↑n:Int))∧(∀ M:Mem,k<n)∧(∀ M:Mem,Value.agg (Array.mk [qA (gN l k).1,qA (gN l k).2,qA (gN l k).3,qE (↑(qF (gN l k).4 0):Int),qE (↑(qF (gN l k).4 1):Int),qE (↑(qF (gN l k).4 2):Int),qE (↑(qF (gN l k).4 3):Int)])=Value.agg (Array.mk [qA 7,qA (gN l k).2,qA (gN l k).3,qE (↑(qF (gN l k).4 0):Int),qE (↑(qF (gN l k).4 1):Int),qE (↑(qF (gN l k).4 2):Int),qE (↑(qF (gN l k).4 3):Int)]))∧(∀ M:Mem,0+7≤7)∧K [.rnd [0,0,1,0,1,1,1] M,.blk 0,.at [1,1,1,1]] (St.mk [(10,.v (qA (IntKind.wrap .i64 ((↑k:Int)+(1:Int))))),(9,.p 0 0),(0,.x 1 [])] [.cells [.v (qA f),.v (qA a),.v (qA i)] 140,.ext b (.s false 7 n (cN l))]) else R (.v (qA 0)) []):=by kernel_rfl
theorem rc8(b:Bool)(l:List Nd)(n k M:Nat)(f a i:Int)(K:List It→St→Prop)(R:SV→List HO→Prop):W (xwp Tryz.prog X K8 [(114,[])] 60 (qO Tryz.f75 [] [⟨[0,1,0,1,1,1],[10,9,0],[]⟩]) [.as 33 (.agg [.v (.int .i64 8),.v (.int .i64 (gN l k).a),.v (.int .i64 (gN l k).b),.v (.int .u64 (qF (gN l k).v 0:Nat)),.v (.int .u64 (qF (gN l k).v 1:Nat)),.v (.int .u64 (qF (gN l k).v 2:Nat)),.v (.int .u64 (qF (gN l k).v 3:Nat))])] (.at [0,0,1,0,1,1,1]::.rnd [0,0,1,0,1,1,1] M::[.blk 0,.at [1,1,1,1]]) ⟨[(10,.v (.int .i64 (k:Int))),(9,.p 0 0),(0,.x 1 [])],[.cells [.v (.int .i64 f),.v (.int .i64 a),.v (.int .i64 i)] 140,.ext b (.s false 7 n (cN l))]⟩ K R)=W (bif decide ((↑k:Int)<(↑n:Int)) then(∀ M:Mem,(0:Int)≤(↑k:Int)∧(↑k:Int)<(↑n:Int))∧(∀ M:Mem,k<n)∧(∀ M:Mem,Value.agg (Array.mk [qA (gN l k).1,qA (gN l k).2,qA (gN l k).3,qE (↑(qF (gN l k).4 0):Int),qE (↑(qF (gN l k).4 1):Int),qE (↑(qF (gN l k).4 2):Int),qE (↑(qF (gN l k).4 3):Int)])=Value.agg (Array.mk [qA 8,qA (gN l k).2,qA (gN l k).3,qE (↑(qF (gN l k).4 0):Int),qE (↑(qF (gN l k).4 1):Int),qE (↑(qF (gN l k).4 2):Int),qE (↑(qF (gN l k).4 3):Int)]))∧(∀ M:Mem,0+7≤7)∧K [.rnd [0,0,1,0,1,1,1] M,.blk 0,.at [1,1,1,1]] (St.mk [(10,.v (qA (IntKind.wrap .i64 ((↑k:Int)+(1:Int))))),(9,.p 0 0),(0,.x 1 [])] [.cells [.v (qA f),.v (qA a),.v (qA i)] 140,.ext b (.s false 7 n (cN l))]) else R (.v (qA 0)) []):=by kernel_rfl
theorem rcS(b:Bool)(l:List Nd)(f a i:Int)(K:List It→St→Prop)(R:SV→List HO→Prop):W (xwp Tryz.prog X K8 [(114,[])] 60 (qO Tryz.f75 [] [⟨[0,1,0,1,1,1],[10,9,0],[]⟩]) [] [.at []] ⟨qQ 0 [.x 0 [],.v (.int .i64 f),.v (.int .i64 a),.v (.int .i64 i)],[.ext b (.s false 7 l.length (cN l))]⟩ K R)=W (bif decide ((64:Int)<(↑l.length:Int)) then R (.v (qA 110)) [] else ∃(l_1:List Nd),List.length l=List.length l_1∧IsC l.length 7 (cN l) (cN l_1)∧List.length l_1≤4000000000000∧bif !zV 0 l_1 then R (.v (qA 110)) [] else(∀ M:Mem,0+3≤3)∧K [.at [0,1,0,1,1,1],.blk 0,.at [1,1,1,1]] (St.mk [(10,.v (qA 0)),(9,.p 0 0),(0,.x 1 [])] [.cells [.v (qA f),.v (qA a),.v (qA i)] 140,.ext b (.s false 7 l.length (cN l))])):=by kernel_rfl
theorem rdR(b:Bool)(l:List Nd)(n k m M:Nat)(out:List Int)(K:List It→St→Prop)(R:SV→List HO→Prop):W (xwp Tryz.prog X K8 [] 60 (qO Tryz.f115 [] [⟨[0,1,0,1,1,1],[4,3,0],[]⟩]) [] (.at [0,0,1,0,1,1,1]::.rnd [0,0,1,0,1,1,1] M::[.blk 0,.at [1,1,1,1]]) ⟨[(4,.v (.int .i64 (k:Int))),(3,.o 0),(0,.x 1 [])],[.rowc 3 1 m (.fn (cI out)),.ext b (.s false 7 n (cN l))]⟩ K R)=W (bif decide ((↑k:Int)<(↑n:Int)) then(∀ M:Mem,(0:Int)≤(↑k:Int)∧(↑k:Int)<(↑n:Int))∧(∀ M:Mem,k<n)∧(∀ M:Mem,0+7≤7)∧bif(gN l k).1==(2:Int) then(∀ M:Mem,(m+1)*8≤140737488355328∧m+1≤140737488355328)∧K [.rnd [0,0,1,0,1,1,1] M,.blk 0,.at [1,1,1,1]] (St.mk [(4,.v (qA (IntKind.wrap .i64 ((↑k:Int)+(1:Int))))),(3,.o 0),(0,.x 1 [])] [.rowc 3 1 (m+1) (.app m (.fn (cI out)) (.lit 1 [.v (qA 1)])),.ext b (.s false 7 n (cN l))]) else bif(gN l k).1==(3:Int) then(∀ M:Mem,(m+1)*8≤140737488355328∧m+1≤140737488355328)∧K [.rnd [0,0,1,0,1,1,1] M,.blk 0,.at [1,1,1,1]] (St.mk [(4,.v (qA (IntKind.wrap .i64 ((↑k:Int)+(1:Int))))),(3,.o 0),(0,.x 1 [])] [.rowc 3 1 (m+1) (.app m (.fn (cI out)) (.lit 1 [.v (qA 1)])),.ext b (.s false 7 n (cN l))]) else bif(gN l k).1==(4:Int) then(∀ M:Mem,(m+1)*8≤140737488355328∧m+1≤140737488355328)∧K [.rnd [0,0,1,0,1,1,1] M,.blk 0,.at [1,1,1,1]] (St.mk [(4,.v (qA (IntKind.wrap .i64 ((↑k:Int)+(1:Int))))),(3,.o 0),(0,.x 1 [])] [.rowc 3 1 (m+1) (.app m (.fn (cI out)) (.lit 1 [.v (qA 1)])),.ext b (.s false 7 n (cN l))]) else bif(gN l k).1==(5:Int) then(∀ M:Mem,(0:Int)≤(gN l k).2∧(gN l k).2<(↑m:Int))∧(∀ M:Mem,Int.toNat (gN l k).2<m)∧bif decide ((1000:Int)<gI out (Int.toNat (gN l k).2)) then(∀ M:Mem,(m+1)*8≤140737488355328∧m+1≤140737488355328)∧K [.rnd [0,0,1,0,1,1,1] M,.blk 0,.at [1,1,1,1]] (St.mk [(4,.v (qA (IntKind.wrap .i64 ((↑k:Int)+(1:Int))))),(3,.o 0),(0,.x 1 [])] [.rowc 3 1 (m+1) (.app m (.fn (cI out)) (.lit 1 [.v (qA 1000)])),.ext b (.s false 7 n (cN l))]) else(∀ M:Mem,(m+1)*8≤140737488355328∧m+1≤140737488355328)∧K [.rnd [0,0,1,0,1,1,1] M,.blk 0,.at [1,1,1,1]] (St.mk [(4,.v (qA (IntKind.wrap .i64 ((↑k:Int)+(1:Int))))),(3,.o 0),(0,.x 1 [])] [.rowc 3 1 (m+1) (.app m (.fn (cI out)) (.lit 1 [.v (qA (gI out (Int.toNat (gN l k).2)))])),.ext b (.s false 7 n (cN l))]) else bif(gN l k).1==(8:Int) then(∀ M:Mem,(0:Int)≤(gN l k).2∧(gN l k).2<(↑m:Int))∧(∀ M:Mem,Int.toNat (gN l k).2<m)∧bif decide ((1000:Int)<gI out (Int.toNat (gN l k).2)) then(∀ M:Mem,(m+1)*8≤140737488355328∧m+1≤140737488355328)∧K [.rnd [0,0,1,0,1,1,1] M,.blk 0,.at [1,1,1,1]] (St.mk [(4,.v (qA (IntKind.wrap .i64 ((↑k:Int)+(1:Int))))),(3,.o 0),(0,.x 1 [])] [.rowc 3 1 (m+1) (.app m (.fn (cI out)) (.lit 1 [.v (qA 1000)])),.ext b (.s false 7 n (cN l))]) else(∀ M:Mem,(m+1)*8≤140737488355328∧m+1≤140737488355328)∧K [.rnd [0,0,1,0,1,1,1] M,.blk 0,.at [1,1,1,1]] (St.mk [(4,.v (qA (IntKind.wrap .i64 ((↑k:Int)+(1:Int))))),(3,.o 0),(0,.x 1 [])] [.rowc 3 1 (m+1) (.app m (.fn (cI out)) (.lit 1 [.v (qA (gI out (Int.toNat (gN l k).2)))])),.ext b (.s false 7 n (cN l))]) else bif(gN l k).1==(6:Int) then(∀ M:Mem,(0:Int)≤(gN l k).2∧(gN l k).2<(↑m:Int))∧(∀ M:Mem,Int.toNat (gN l k).2<m)∧(∀ M:Mem,(0:Int)≤(gN l k).3∧(gN l k).3<(↑m:Int))∧(∀ M:Mem,Int.toNat (gN l k).3<m)∧bif decide (gI out (Int.toNat (gN l k).2)<gI out (Int.toNat (gN l k).3)) then(∀ M:Mem,(0:Int)≤(gN l k).3∧(gN l k).3<(↑m:Int))∧(∀ M:Mem,Int.toNat (gN l k).3<m)∧bif decide ((1000:Int)<gI out (Int.toNat (gN l k).3)) then(∀ M:Mem,(m+1)*8≤140737488355328∧m+1≤140737488355328)∧K [.rnd [0,0,1,0,1,1,1] M,.blk 0,.at [1,1,1,1]] (St.mk [(4,.v (qA (IntKind.wrap .i64 ((↑k:Int)+(1:Int))))),(3,.o 0),(0,.x 1 [])] [.rowc 3 1 (m+1) (.app m (.fn (cI out)) (.lit 1 [.v (qA 1000)])),.ext b (.s false 7 n (cN l))]) else(∀ M:Mem,(m+1)*8≤140737488355328∧m+1≤140737488355328)∧K [.rnd [0,0,1,0,1,1,1] M,.blk 0,.at [1,1,1,1]] (St.mk [(4,.v (qA (IntKind.wrap .i64 ((↑k:Int)+(1:Int))))),(3,.o 0),(0,.x 1 [])] [.rowc 3 1 (m+1) (.app m (.fn (cI out)) (.lit 1 [.v (qA (gI out (Int.toNat (gN l k).3)))])),.ext b (.s false 7 n (cN l))]) else bif decide ((1000:Int)<gI out (Int.toNat (gN l k).2)) then(∀ M:Mem,(m+1)*8≤140737488355328∧m+1≤140737488355328)∧K [.rnd [0,0,1,0,1,1,1] M,.blk 0,.at [1,1,1,1]] (St.mk [(4,.v (qA (IntKind.wrap .i64 ((↑k:Int)+(1:Int))))),(3,.o 0),(0,.x 1 [])] [.rowc 3 1 (m+1) (.app m (.fn (cI out)) (.lit 1 [.v (qA 1000)])),.ext b (.s false 7 n (cN l))]) else(∀ M:Mem,(m+1)*8≤140737488355328∧m+1≤140737488355328)∧K [.rnd [0,0,1,0,1,1,1] M,.blk 0,.at [1,1,1,1]] (St.mk [(4,.v (qA (IntKind.wrap .i64 ((↑k:Int)+(1:Int))))),(3,.o 0),(0,.x 1 [])] [.rowc 3 1 (m+1) (.app m (.fn (cI out)) (.lit 1 [.v (qA (gI out (Int.toNat (gN l k).2)))])),.ext b (.s false 7 n (cN l))]) else bif(gN l k).1==(7:Int) then(∀ M:Mem,(0:Int)≤(gN l k).2∧(gN l k).2<(↑m:Int))∧(∀ M:Mem,Int.toNat (gN l k).2<m)∧(∀ M:Mem,(0:Int)≤(gN l k).3∧(gN l k).3<(↑m:Int))∧(∀ M:Mem,Int.toNat (gN l k).3<m)∧bif decide ((1000:Int)<IntKind.wrap .i64 (gI out (Int.toNat (gN l k).2)+gI out (Int.toNat (gN l k).3))) then(∀ M:Mem,(m+1)*8≤140737488355328∧m+1≤140737488355328)∧K [.rnd [0,0,1,0,1,1,1] M,.blk 0,.at [1,1,1,1]] (St.mk [(4,.v (qA (IntKind.wrap .i64 ((↑k:Int)+(1:Int))))),(3,.o 0),(0,.x 1 [])] [.rowc 3 1 (m+1) (.app m (.fn (cI out)) (.lit 1 [.v (qA 1000)])),.ext b (.s false 7 n (cN l))]) else(∀ M:Mem,(m+1)*8≤140737488355328∧m+1≤140737488355328)∧K [.rnd [0,0,1,0,1,1,1] M,.blk 0,.at [1,1,1,1]] (St.mk [(4,.v (qA (IntKind.wrap .i64 ((↑k:Int)+(1:Int))))),(3,.o 0),(0,.x 1 [])] [.rowc 3 1 (m+1) (.app m (.fn (cI out)) (.lit 1 [.v (qA (IntKind.wrap .i64 (gI out (Int.toNat (gN l k).2)+gI out (Int.toNat (gN l k).3))))])),.ext b (.s false 7 n (cN l))]) else(∀ M:Mem,(m+1)*8≤140737488355328∧m+1≤140737488355328)∧K [.rnd [0,0,1,0,1,1,1] M,.blk 0,.at [1,1,1,1]] (St.mk [(4,.v (qA (IntKind.wrap .i64 ((↑k:Int)+(1:Int))))),(3,.o 0),(0,.x 1 [])] [.rowc 3 1 (m+1) (.app m (.fn (cI out)) (.lit 1 [.v (qA 0)])),.ext b (.s false 7 n (cN l))]) else R (.o 0) [.rowc 3 1 m (.fn (cI out))]):=by kernel_rfl
theorem rdS(b:Bool)(l:List Nd)(K:List It→St→Prop)(R:SV→List HO→Prop):W (xwp Tryz.prog X K8 [] 60 (qO Tryz.f115 [] [⟨[0,1,0,1,1,1],[4,3,0],[]⟩]) [] [.at []] ⟨qQ 0 [.x 0 []],[.ext b (.s false 7 l.length (cN l))]⟩ K R)=W (∃(l_1:List Nd),List.length l=List.length l_1∧IsC l.length 7 (cN l) (cN l_1)∧List.length l_1≤4000000000000∧bif !zV 0 l_1 then R (.o 0) [.rowc 3 1 0 (.lit 1 [])] else K [.at [0,1,0,1,1,1],.blk 0,.at [1,1,1,1]] (St.mk [(4,.v (qA 0)),(3,.o 0),(0,.x 1 [])] [.rowc 3 1 0 (.lit 1 []),.ext b (.s false 7 l.length (cN l))])):=by kernel_rfl
theorem qZm(b:Bool)(all:List Nd)(f a i:Int)(ho:zV 0 all=true)(hb:all.length≤4000000000000)(Q:SV→List HO→Prop)(hq1:all.any (qEa f a i)=true→Q (.v (.int .i64 110)) [])(hq0:all.any (qEa f a i)=false→Q (.v (.int .i64 0)) []):
  ∀(d k:Nat),k+d=all.length→all.any (qEa f a i)=(all.drop k).any (qEa f a i) →
  FOk Tryz.prog Tryz.f75 Q (.rnd [0,0,1,0,1,1,1] (d+1)::[.blk 0,.at [1,1,1,1]]) ⟨[(10,.v (.int .i64 (k:Int))),(9,.p 0 0),(0,.x 1 [])],[.cells [.v (.int .i64 f),.v (.int .i64 a),.v (.int .i64 i)] 140,.ext b (.s false 7 all.length (cN all))]⟩
 | 0,k,hd,he=>by
  refine FOk.rnd (qC hm 60 ((rc1 b all all.length k 0 f a i _ _).mpr ⟨?_⟩))
  simp only[qD]
  rw[if_neg (by omega)]
  rw[show k=all.length by omega,List.drop_length] at he
  exact hq0 he
 | d+1,k,hd,he=>by
  have hk:k<all.length:=by omega
  rw[zEk _ hk] at he
  have hop:=qCp all 0 ho _ (qDw hk)
  have no:qEa f a i (gN all k)=true→Q (.v (.int .i64 110)) []:=fun h=>hq1 (by rw[he,h]; rfl)
  have yes:qEa f a i (gN all k)=false→FOk Tryz.prog Tryz.f75 Q (.rnd [0,0,1,0,1,1,1] (d+1)::[.blk 0,.at [1,1,1,1]]) ⟨[(10,.v (.int .i64 (IntKind.wrap .i64 ((k:Int)+1)))),(9,.p 0 0),(0,.x 1 [])],[.cells [.v (.int .i64 f),.v (.int .i64 a),.v (.int .i64 i)] 140,.ext b (.s false 7 all.length (cN all))]⟩:=fun h=>by
   rw[qK _ (by omega)]
   exact qZm b all f a i ho hb Q hq1 hq0 d (k+1) (by omega) (by rw[he,h]; rfl)
  by_cases h:(gN all k).op=1
  ·refine FOk.rnd (qC hm 60 ((rc1 b all all.length k (d+1) f a i _ _).mpr ⟨?_⟩))
   simp only[qD,forall_const]
   repeat' (first | refine And.intro ?_ ?_ | refine qG (fun _=>?_) (fun _=>?_))
   all_goals first
    | omega
    | (rw[h])
    | exact no (by rw[qX]; omega)
    | exact yes (by rw[Bool.eq_false_iff,ne_eq,qX]; omega)
  by_cases h:(gN all k).op=2
  ·refine FOk.rnd (qC hm 60 ((rc2 b all all.length k (d+1) f a i _ _).mpr ⟨?_⟩))
   have hmo:qJe f a i (gN all k).op=f:=by rw[h]; rfl
   simp only[qD,forall_const]
   repeat' (first | refine And.intro ?_ ?_ | refine qG (fun _=>?_) (fun _=>?_))
   all_goals first
    | omega
    | (rw[h])
    | exact no (by rw[qX,hmo]; omega)
    | exact yes (by rw[Bool.eq_false_iff,ne_eq,qX,hmo]; omega)
  by_cases h:(gN all k).op=3
  ·refine FOk.rnd (qC hm 60 ((rc3 b all all.length k (d+1) f a i _ _).mpr ⟨?_⟩))
   have hmo:qJe f a i (gN all k).op=a:=by rw[h]; rfl
   simp only[qD,forall_const]
   repeat' (first | refine And.intro ?_ ?_ | refine qG (fun _=>?_) (fun _=>?_))
   all_goals first
    | omega
    | (rw[h])
    | exact no (by rw[qX,hmo]; omega)
    | exact yes (by rw[Bool.eq_false_iff,ne_eq,qX,hmo]; omega)
  by_cases h:(gN all k).op=4
  ·refine FOk.rnd (qC hm 60 ((rc4 b all all.length k (d+1) f a i _ _).mpr ⟨?_⟩))
   have hmo:qJe f a i (gN all k).op=i:=by rw[h]; rfl
   simp only[qD,forall_const]
   repeat' (first | refine And.intro ?_ ?_ | refine qG (fun _=>?_) (fun _=>?_))
   all_goals first
    | omega
    | (rw[h])
    | exact no (by rw[qX,hmo]; omega)
    | exact yes (by rw[Bool.eq_false_iff,ne_eq,qX,hmo]; omega)
  by_cases h:(gN all k).op=5
  ·refine FOk.rnd (qC hm 60 ((rc5 b all all.length k (d+1) f a i _ _).mpr ⟨?_⟩))
   simp only[qD,forall_const]
   repeat' (first | refine And.intro ?_ ?_ | refine qG (fun _=>?_) (fun _=>?_))
   all_goals first
    | omega
    | (rw[h])
    | exact no (by rw[qX]; omega)
    | exact yes (by rw[Bool.eq_false_iff,ne_eq,qX]; omega)
  by_cases h:(gN all k).op=6
  ·refine FOk.rnd (qC hm 60 ((rc6 b all all.length k (d+1) f a i _ _).mpr ⟨?_⟩))
   simp only[qD,forall_const]
   repeat' (first | refine And.intro ?_ ?_ | refine qG (fun _=>?_) (fun _=>?_))
   all_goals first
    | omega
    | (rw[h])
    | exact no (by rw[qX]; omega)
    | exact yes (by rw[Bool.eq_false_iff,ne_eq,qX]; omega)
  by_cases h:(gN all k).op=7
  ·refine FOk.rnd (qC hm 60 ((rc7 b all all.length k (d+1) f a i _ _).mpr ⟨?_⟩))
   simp only[qD,forall_const]
   repeat' (first | refine And.intro ?_ ?_ | refine qG (fun _=>?_) (fun _=>?_))
   all_goals first
    | omega
    | (rw[h])
    | exact no (by rw[qX]; omega)
    | exact yes (by rw[Bool.eq_false_iff,ne_eq,qX]; omega)
  by_cases h:(gN all k).op=8
  ·refine FOk.rnd (qC hm 60 ((rc8 b all all.length k (d+1) f a i _ _).mpr ⟨?_⟩))
   simp only[qD,forall_const]
   repeat' (first | refine And.intro ?_ ?_ | refine qG (fun _=>?_) (fun _=>?_))
   all_goals first
    | omega
    | (rw[h])
    | exact no (by rw[qX]; omega)
    | exact yes (by rw[Bool.eq_false_iff,ne_eq,qX]; omega)
  omega
theorem bRc:Tryz.f75.body.isSome=true:=by kernel_rfl
theorem nRc(f a i:Int):Nat.ble [SV.x 0 [],.v (.int .i64 f),.v (.int .i64 a),.v (.int .i64 i)].length Tryz.f75.ntmps=true:=by kernel_rfl
theorem zBh(b:Bool)(all:List Nd)(f a i:Int)(hb:all.length≤4000000000000)(Q:SV→List HO→Prop)(hq:Q (.v (.int .i64 (qAa all f a i))) []):qI Tryz.prog 75 [.x 0 [],.v (.int .i64 f),.v (.int .i64 a),.v (.int .i64 i)] [.ext b (.s false 7 all.length (cN all))] Q:=by
 refine qL Tryz.func75 bRc ?_ ?_
 ·exact nRc f a i
 refine qC hm 60 ((rcS b all f a i _ _).mpr ⟨?_⟩)
 simp only[qD,forall_const,qV]
 refine qG (fun h=>?_) (fun h=>⟨all,rfl,IsC.refl _ _ _,hb,qJ (fun ho=>⟨by omega,?_⟩) (fun ho=>?_)⟩)
 ·rw[qEl (.inl (by omega))] at hq; exact hq
 ·refine FOk.loop (all.length+1) (by kernel_rfl) (qZm b all f a i ho hb Q (fun hh=>?_) (fun hh=>?_) all.length 0 (by omega) rfl)
  ·rw[qEl (.inr (.inr hh))] at hq; exact hq
  ·rw[zFa (by rw[ho,hh]; simp; omega)] at hq; exact hq
 ·rw[qEl (.inr (.inl ho))] at hq; exact hq
noncomputable def gRc:List SV→List HO→Option ((SV→List HO→Prop)→Prop)
 | [.x 0 [],.v (.int .i64 f),.v (.int .i64 a),.v (.int .i64 i)],[.ext _ (.s false 7 n c)]=>some fun Q=>∃ l:List Nd,n=l.length∧IsC n 7 c (cN l)∧l.length≤4000000000000∧Q (.v (.int .i64 (qAa l f a i))) []
 | _,_=>none
theorem zPf(args:List SV)(h:List HO)(tr:(SV→List HO→Prop)→Prop)(Q:SV→List HO→Prop)(hc:gRc args h=some tr)(ht:tr Q):qI Tryz.prog 75 args h Q:=by
 unfold gRc at hc
 split at hc
 ·rename_i f a i b n c
  simp only[sI] at hc
  subst hc
  obtain⟨l,rfl,he,hb,hq⟩:=ht
  exact qI.ac (zBh b l f a i hb Q hq) ⟨⟨rfl,rfl,rfl,rfl,he⟩,trivial⟩
 ·cases hc
theorem zAf(b:Bool)(all:List Nd)(ho:zV 0 all=true)(hb:all.length≤4000000000000)(Q:SV→List HO→Prop)(hq:Q (.o 0) [.rowc 3 1 (qM all).length (.fn (cI (qM all)))]):
  ∀(d k:Nat) (out:List Int),k+d=all.length→out.length=k→(∀ z∈out,0≤z∧z≤1000)→qCb [] all=qCb out (all.drop k) →
  FOk Tryz.prog Tryz.f115 Q (.rnd [0,0,1,0,1,1,1] (d+1)::[.blk 0,.at [1,1,1,1]]) ⟨[(4,.v (.int .i64 (k:Int))),(3,.o 0),(0,.x 1 [])],[.rowc 3 1 k (.fn (cI out)),.ext b (.s false 7 all.length (cN all))]⟩
 | 0,k,out,hd,hl,hz,he=>by
  refine FOk.rnd (qC hm 60 ((rdR b all all.length k k 0 out _ _).mpr ⟨?_⟩))
  simp only[qD]
  rw[if_neg (by omega)]
  have:qM all=out:=by
   rw[qM,if_pos ho,he,show k=all.length by omega,List.drop_length]; rfl
  rw[this,hl] at hq
  exact hq
 | d+1,k,out,hd,hl,hz,he=>by
  have hk:k<all.length:=by omega
  rw[qEi hk,qCb] at he
  have hop:=qCp all 0 ho _ (qDw hk)
  have hus:=qEm k (gN all k)
  have hok:okN k (gN all k)=true:=qDb ho k (gN all k) (by rw[gN,List.getD_eq_getElem?_getD,List.getElem?_eq_getElem hk]; rfl)
  rw[hok] at hus
  have hus:=hus.1 rfl
  have b1:0≤gI out (gN all k).a.toNat∧gI out (gN all k).a.toNat≤1000:=wD hz (gN all k).a.toNat
  have b2:0≤gI out (gN all k).b.toNat∧gI out (gN all k).b.toNat≤1000:=wD hz (gN all k).b.toNat
  have g1:out.getD (gN all k).a.toNat 0=gI out (gN all k).a.toNat:=rfl
  have g2:out.getD (gN all k).b.toNat 0=gI out (gN all k).b.toNat:=rfl
  have hbd:=qFo hz (gN all k)
  have yes:∀ z,qAj out (gN all k)=z→FOk Tryz.prog Tryz.f115 Q (.rnd [0,0,1,0,1,1,1] (d+1)::[.blk 0,.at [1,1,1,1]]) ⟨[(4,.v (.int .i64 (IntKind.wrap .i64 ((k:Int)+1)))),(3,.o 0),(0,.x 1 [])],[.rowc 3 1 (k+1) (.app k (.fn (cI out)) (.lit 1 [.v (.int .i64 z)])),.ext b (.s false 7 all.length (cN all))]⟩:=fun z hz'=>by
   rw[qK _ (by omega)]
   refine FOk.cv (zAf b all ho hb Q hq d (k+1) (out++[z]) (by omega) (by simp [hl]) (fun y hy=>?_) (by rw[he,hz'])) ⟨⟨rfl,rfl,rfl,qEr z hl⟩,HE.refl _,trivial⟩
   rcases List.mem_append.1 hy with h | h
   ·exact hz y h
   ·rw[List.mem_singleton] at h; rw[h,← hz']; exact hbd
  have d1:(gN all k).op=1→qAj out (gN all k)=0:=fun h=>by rw[zBx out h]; rfl
  have dq:2≤(gN all k).op∧(gN all k).op≤4→qAj out (gN all k)=1:=fun h=>by rw[zDg out h]; rfl
  have dn:(gN all k).op=5∨(gN all k).op=8→qAj out (gN all k)=gI out (gN all k).a.toNat:=fun h=>by
   rcases h with h | h
   ·rw[zCy out h,g1,if_neg (by omega)]
   ·rw[zDm out h,g1,if_neg (by omega)]
  have da:(gN all k).op=6→qAj out (gN all k)=if gI out (gN all k).a.toNat<gI out (gN all k).b.toNat then gI out (gN all k).b.toNat else gI out (gN all k).a.toNat:=fun h=>by
   rw[zDj out h,g1,g2,if_neg (by split <;> omega)]
  have dm:(gN all k).op=7→qAj out (gN all k)=if 1000<gI out (gN all k).a.toNat+gI out (gN all k).b.toNat then 1000 else gI out (gN all k).a.toNat+gI out (gN all k).b.toNat:=fun h=>by
   rw[zDe out h,g1,g2]
  have hw:IntKind.wrap .i64 (gI out (gN all k).a.toNat+gI out (gN all k).b.toNat)=gI out (gN all k).a.toNat+gI out (gN all k).b.toNat:=zE _ (by omega)
  refine FOk.rnd (qC hm 60 ((rdR b all all.length k k (d+1) out _ _).mpr ⟨?_⟩))
  simp only[qD,zC,forall_const,hw]
  repeat' (first | refine And.intro ?_ ?_ | refine qG (fun _=>?_) (fun _=>?_))
  all_goals first
   | omega
   | exact yes _ (d1 (by omega))
   | exact yes _ (dq (by omega))
   | exact yes _ (dn (by omega))
   | exact yes _ (by rw[da (by omega),if_pos (by omega)])
   | exact yes _ (by rw[da (by omega),if_neg (by omega)])
   | exact yes _ (by rw[dm (by omega),if_pos (by omega)])
   | exact yes _ (by rw[dm (by omega),if_neg (by omega)])
theorem bRd:Tryz.f115.body.isSome=true:=by kernel_rfl
theorem nRd:Nat.ble [SV.x 0 []].length Tryz.f115.ntmps=true:=by kernel_rfl
theorem qUc(b:Bool)(all:List Nd)(hb:all.length≤4000000000000)(Q:SV→List HO→Prop)(hq:Q (.o 0) [.rowc 3 1 (qM all).length (.fn (cI (qM all)))]):qI Tryz.prog 115 [.x 0 []] [.ext b (.s false 7 all.length (cN all))] Q:=by
 refine qI.mono (qI.eqv (r0:=.o 0) (h0:=[.rowc 3 1 (qM all).length (.fn (cI (qM all)))]) ?_) (fun r h' hh=>by rw[hh.1,hh.2]; exact hq)
 refine qL Tryz.func115 bRd ?_ ?_
 ·exact nRd
 refine qC hm 60 ((rdS b all _ _).mpr ⟨?_⟩)
 refine⟨all,rfl,IsC.refl _ _ _,hb,?_⟩
 rw[qV]
 refine qJ (fun ho=>?_) (fun ho=>?_)
 ·exact FOk.loop (all.length+1) (by kernel_rfl) (FOk.cv (zAf b all ho hb _ ⟨rfl,HEs.refl _⟩ all.length 0 [] (by omega) rfl (by simp) rfl) ⟨⟨rfl,rfl,rfl,fun k hk=>by omega⟩,HE.refl _,trivial⟩)
 ·have:qM all=[]:=by rw[qM,if_neg (by rw[ho]; simp)]
  rw[this]
  exact⟨rfl,⟨rfl,rfl,rfl,fun k hk=>by omega⟩,trivial⟩
noncomputable def gRd:List SV→List HO→Option ((SV→List HO→Prop)→Prop)
 | [.x 0 []],[.ext _ (.s false 7 n c)]=>some fun Q=>∃ l:List Nd,n=l.length∧IsC n 7 c (cN l)∧l.length≤4000000000000∧Q (.o 0) [.rowc 3 1 (qM l).length (.fn (cI (qM l)))]
 | _,_=>none
theorem zKe(args:List SV)(h:List HO)(tr:(SV→List HO→Prop)→Prop)(Q:SV→List HO→Prop)(hc:gRd args h=some tr)(ht:tr Q):qI Tryz.prog 115 args h Q:=by
 unfold gRd at hc
 split at hc
 ·rename_i b n c
  simp only[sI] at hc
  subst hc
  obtain⟨l,rfl,he,hb,hq⟩:=ht
  exact qI.ac (qUc b l hb Q hq) ⟨⟨rfl,rfl,rfl,rfl,he⟩,trivial⟩
 ·cases hc
end Go.Proofs.YtlmjdcbhpffanaaGreat
/- The document's queries; copies and comparisons. -/
namespace Go.Pl
open Go.Sx
theorem zPe{x y:Nat}(hx:x<top)(hy:y<top)(h:[((qF x 0:Nat):Int),(qF x 1:Nat),(qF x 2:Nat),(qF x 3:Nat)]=[((qF y 0:Nat):Int),(qF y 1:Nat),(qF y 2:Nat),(qF y 3:Nat)]):x=y:=by
 simp only[List.cons.injEq,and_true] at h
 exact qIz hx hy (by omega) (by omega) (by omega) (by omega)
end Go.Pl
namespace Go.Proofs.YtlmjdcbhpffanaaGreat
open Go.Sx Go.Pl
set_option linter.unusedVariables false
set_option maxRecDepth 100000
theorem zIm(b:Bool)(l:List (Int×Int×Int))(n k M:Nat)(x y z:Int)(K:List It→St→Prop)(R:SV→List HO→Prop):W (xwp Tryz.prog X K8 [] 60 (qO Tryz.f124 [] [⟨[0,1,0,1],[5,4,3,0],[]⟩]) [] (.at [0,0,1,0,1]::.rnd [0,0,1,0,1] M::[.blk 0,.at [1,1]]) ⟨[(5,.v (.int .i64 (k:Int))),(4,.v (.int .i64 0)),(3,.p 0 0),(0,.x 1 [])],[.cells [.v (.int .i64 x),.v (.int .i64 y),.v (.int .i64 z)] 156,.ext b (.s false 3 n (cQ l))]⟩ K R)=W (bif decide ((↑k:Int)<(↑n:Int)) then(∀ M:Mem,(0:Int)≤(↑k:Int)∧(↑k:Int)<(↑n:Int))∧(∀ M:Mem,k<n)∧bif decide ([(gQ l k).1,(gQ l k).2.1,(gQ l k).2.2]=[x,y,z]) then R (.v (qA (↑k:Int))) [] else K [.rnd [0,0,1,0,1] M,.blk 0,.at [1,1]] (St.mk [(5,.v (qA (IntKind.wrap .i64 ((↑k:Int)+(1:Int))))),(4,.v (qA 0)),(3,.p 0 0),(0,.x 1 [])] [.cells [.v (qA x),.v (qA y),.v (qA z)] 156,.ext b (.s false 3 n (cQ l))]) else R (.v (qA (-1))) []):=by kernel_rfl
theorem zQs(b:Bool)(l:List (Int×Int×Int))(x y z:Int)(K:List It→St→Prop)(R:SV→List HO→Prop):W (xwp Tryz.prog X K8 [] 60 (qO Tryz.f124 [] [⟨[0,1,0,1],[5,4,3,0],[]⟩]) [] [.at []] ⟨qQ 0 [.x 0 [],.agg [.v (.int .i64 x),.v (.int .i64 y),.v (.int .i64 z)]],[.ext b (.s false 3 l.length (cQ l))]⟩ K R)=W (K [.at [0,1,0,1],.blk 0,.at [1,1]] (St.mk [(5,.v (qA 0)),(4,.v (qA 0)),(3,.p 0 0),(0,.x 1 [])] [.cells [.v (qA x),.v (qA y),.v (qA z)] 156,.ext b (.s false 3 l.length (cQ l))])):=by kernel_rfl
theorem cnS(l:List Nd)(K:List It→St→Prop)(R:SV→List HO→Prop):W (xwp Tryz.prog X K8 [] 60 (qO Tryz.f32 [] []) [] [.at []] ⟨qQ 0 [.x 0 []],[.ext false (.s false 7 l.length (cN l))]⟩ K R)=W ((∀ M:Mem,(0+List.length l)*56≤140737488355328∧0+List.length l≤140737488355328)∧R (.o 0) [.rowc 109 7 (0+List.length l) (.app 0 (.lit 7 []) (.fn (cN l)))]):=by kernel_rfl
theorem siR(b b2:Bool)(l l2:List Int)(n n2 k M:Nat)(K:List It→St→Prop)(R:SV→List HO→Prop):W (xwp Tryz.prog X K8 [] 60 (qO Tryz.f14 [] [⟨[0,1,0,1,1],[5,4,0,1],[]⟩]) [] (.at [0,0,1,0,1,1]::.rnd [0,0,1,0,1,1] M::[.blk 0,.at [1,1,1]]) ⟨[(5,.v (.int .i64 (k:Int))),(4,.v (.bool false)),(0,.x 0 []),(1,.x 1 [])],[.ext b (.s false 1 n (cI l)),.ext b2 (.s false 1 n2 (cI l2))]⟩ K R)=W (bif decide ((↑k:Int)<(↑n:Int)) then(∀ M:Mem,(0:Int)≤(↑k:Int)∧(↑k:Int)<(↑n:Int))∧(∀ M:Mem,k<n)∧(∀ M:Mem,(0:Int)≤(↑k:Int)∧(↑k:Int)<(↑n2:Int))∧(∀ M:Mem,k<n2)∧bif !gI l k==gI l2 k then R (.v (.bool false)) [] else K [.rnd [0,0,1,0,1,1] M,.blk 0,.at [1,1,1]] (St.mk [(5,.v (qA (IntKind.wrap .i64 ((↑k:Int)+(1:Int))))),(4,.v (.bool false)),(0,.x 0 []),(1,.x 1 [])] [.ext b (.s false 1 n (cI l)),.ext b2 (.s false 1 n2 (cI l2))]) else R (.v (.bool true)) []):=by kernel_rfl
theorem siS(b b2:Bool)(l l2:List Int)(n n2:Nat)(K:List It→St→Prop)(R:SV→List HO→Prop):W (xwp Tryz.prog X K8 [] 60 (qO Tryz.f14 [] [⟨[0,1,0,1,1],[5,4,0,1],[]⟩]) [] [.at []] ⟨qQ 0 [.x 0 [],.x 1 []],[.ext b (.s false 1 n (cI l)),.ext b2 (.s false 1 n2 (cI l2))]⟩ K R)=W (bif !(↑n:Int)==(↑n2:Int) then R (.v (.bool false)) [] else K [.at [0,1,0,1,1],.blk 0,.at [1,1,1]] (St.mk [(5,.v (qA 0)),(4,.v (.bool false)),(0,.x 0 []),(1,.x 1 [])] [.ext b (.s false 1 n (cI l)),.ext b2 (.s false 1 n2 (cI l2))])):=by kernel_rfl
theorem snR(b b2:Bool)(l l2:List Nd)(n n2 k M:Nat)(K:List It→St→Prop)(R:SV→List HO→Prop):W (xwp Tryz.prog X K8 [] 60 (qO Tryz.f50 [] [⟨[0,1,0,1,1],[5,4,0,1],[]⟩]) [] (.at [0,0,1,0,1,1]::.rnd [0,0,1,0,1,1] M::[.blk 0,.at [1,1,1]]) ⟨[(5,.v (.int .i64 (k:Int))),(4,.v (.bool false)),(0,.x 0 []),(1,.x 1 [])],[.ext b (.s false 7 n (cN l)),.ext b2 (.s false 7 n2 (cN l2))]⟩ K R)=W (bif decide ((↑k:Int)<(↑n:Int)) then(∀ M:Mem,(0:Int)≤(↑k:Int)∧(↑k:Int)<(↑n:Int))∧(∀ M:Mem,k<n)∧(∀ M:Mem,(0:Int)≤(↑k:Int)∧(↑k:Int)<(↑n2:Int))∧(∀ M:Mem,k<n2)∧bif !decide ([(gN l k).1,(gN l k).2,(gN l k).3,(↑(qF (gN l k).4 0):Int),(↑(qF (gN l k).4 1):Int),(↑(qF (gN l k).4 2):Int),(↑(qF (gN l k).4 3):Int)]=[(gN l2 k).1,(gN l2 k).2,(gN l2 k).3,(↑(qF (gN l2 k).4 0):Int),(↑(qF (gN l2 k).4 1):Int),(↑(qF (gN l2 k).4 2):Int),(↑(qF (gN l2 k).4 3):Int)]) then R (.v (.bool false)) [] else K [.rnd [0,0,1,0,1,1] M,.blk 0,.at [1,1,1]] (St.mk [(5,.v (qA (IntKind.wrap .i64 ((↑k:Int)+(1:Int))))),(4,.v (.bool false)),(0,.x 0 []),(1,.x 1 [])] [.ext b (.s false 7 n (cN l)),.ext b2 (.s false 7 n2 (cN l2))]) else R (.v (.bool true)) []):=by kernel_rfl
theorem snS(b b2:Bool)(l l2:List Nd)(n n2:Nat)(K:List It→St→Prop)(R:SV→List HO→Prop):W (xwp Tryz.prog X K8 [] 60 (qO Tryz.f50 [] [⟨[0,1,0,1,1],[5,4,0,1],[]⟩]) [] [.at []] ⟨qQ 0 [.x 0 [],.x 1 []],[.ext b (.s false 7 n (cN l)),.ext b2 (.s false 7 n2 (cN l2))]⟩ K R)=W (bif !(↑n:Int)==(↑n2:Int) then R (.v (.bool false)) [] else K [.at [0,1,0,1,1],.blk 0,.at [1,1,1]] (St.mk [(5,.v (qA 0)),(4,.v (.bool false)),(0,.x 0 []),(1,.x 1 [])] [.ext b (.s false 7 n (cN l)),.ext b2 (.s false 7 n2 (cN l2))])):=by kernel_rfl
theorem qZw(b:Bool)(all:List (Int×Int×Int))(x y z:Int)(hb:all.length≤4398046511104)(Q:SV→List HO→Prop)(hq:Q (.v (.int .i64 (zB (xB x y z) 0 all))) []):
  ∀(d k:Nat),k+d=all.length→zB (xB x y z) 0 all=zB (xB x y z) k (all.drop k) →
  FOk Tryz.prog Tryz.f124 Q (.rnd [0,0,1,0,1] (d+1)::[.blk 0,.at [1,1]]) ⟨[(5,.v (.int .i64 (k:Int))),(4,.v (.int .i64 0)),(3,.p 0 0),(0,.x 1 [])],[.cells [.v (.int .i64 x),.v (.int .i64 y),.v (.int .i64 z)] 156,.ext b (.s false 3 all.length (cQ all))]⟩
 | 0,k,hd,he=>by
  refine FOk.rnd (qC hm 60 ((zIm b all all.length k 0 x y z _ _).mpr ⟨?_⟩))
  simp only[qD]
  rw[if_neg (by omega)]
  rw[he,show k=all.length by omega,List.drop_length] at hq
  exact hq
 | d+1,k,hd,he=>by
  have hk:k<all.length:=by omega
  rw[qHr hk] at he
  refine FOk.rnd (qC hm 60 ((zIm b all all.length k (d+1) x y z _ _).mpr ⟨?_⟩))
  simp only[qD,forall_const]
  rw[if_pos (by omega)]
  repeat' (first | refine And.intro (by omega) ?_ | refine qG (fun h=>?_) (fun h=>?_))
  ·rw[he,if_pos (by rw[xB]; exact decide_eq_true h.symm)] at hq; exact hq
  ·rw[qK _ (by omega)]
   exact qZw b all x y z hb Q hq d (k+1) (by omega) (by rw[he,if_neg (by rw[xB,decide_eq_true_eq]; exact fun hh=>h hh.symm)])
theorem bAt:Tryz.f124.body.isSome=true:=by kernel_rfl
theorem nAt(x y z:Int):Nat.ble [SV.x 0 [],.agg [.v (.int .i64 x),.v (.int .i64 y),.v (.int .i64 z)]].length Tryz.f124.ntmps=true:=by kernel_rfl
theorem zKl(b:Bool)(all:List (Int×Int×Int))(x y z:Int)(hb:all.length≤4398046511104)(Q:SV→List HO→Prop)(hq:Q (.v (.int .i64 (zB (xB x y z) 0 all))) []):qI Tryz.prog 124 [.x 0 [],.agg [.v (.int .i64 x),.v (.int .i64 y),.v (.int .i64 z)]] [.ext b (.s false 3 all.length (cQ all))] Q:=by
 refine qL Tryz.func124 bAt ?_ ?_
 ·exact nAt x y z
 refine qC hm 60 ((zQs b all x y z _ _).mpr ⟨?_⟩)
 exact FOk.loop (all.length+1) (by kernel_rfl) (qZw b all x y z hb Q hq all.length 0 (by omega) rfl)
noncomputable def gAt:List SV→List HO→Option ((SV→List HO→Prop)→Prop)
 | [.x 0 [],.agg [.v (.int .i64 x),.v (.int .i64 y),.v (.int .i64 z)]],[.ext _ (.s false 3 n c)]=>some fun Q=>∃ l:List (Int×Int×Int),n=l.length∧IsC n 3 c (cQ l)∧l.length≤4398046511104∧Q (.v (.int .i64 (zB (xB x y z) 0 l))) []
 | _,_=>none
theorem zMm(args:List SV)(h:List HO)(tr:(SV→List HO→Prop)→Prop)(Q:SV→List HO→Prop)(hc:gAt args h=some tr)(ht:tr Q):qI Tryz.prog 124 args h Q:=by
 unfold gAt at hc
 split at hc
 ·rename_i x y z b n c
  simp only[sI] at hc
  subst hc
  obtain⟨l,rfl,he,hb,hq⟩:=ht
  exact qI.ac (zKl b l x y z hb Q hq) ⟨⟨rfl,rfl,rfl,rfl,he⟩,trivial⟩
 ·cases hc
theorem bCp:Tryz.f32.body.isSome=true:=by kernel_rfl
theorem nCp:Nat.ble [SV.x 0 []].length Tryz.f32.ntmps=true:=by kernel_rfl
theorem zCl(all:List Nd)(hb:all.length≤2513169434916)(Q:SV→List HO→Prop)(hq:Q (.o 0) [.rowc 109 7 all.length (.fn (cN all))]):qI Tryz.prog 32 [.x 0 []] [.ext false (.s false 7 all.length (cN all))] Q:=by
 refine qI.mono (qI.eqv (r0:=.o 0) (h0:=[.rowc 109 7 all.length (.fn (cN all))]) ?_) (fun r h' hh=>by rw[hh.1,hh.2]; exact hq)
 refine qL Tryz.func32 bCp ?_ ?_
 ·exact nCp
 refine qC hm 60 ((cnS all _ _).mpr ⟨?_⟩)
 refine⟨fun _=>by omega,rfl,⟨rfl,rfl,by omega,fun k hk j hj=>?_⟩,trivial⟩
 exact xN _ _ _ (Nat.zero_le _)
noncomputable def gCp:List SV→List HO→Option ((SV→List HO→Prop)→Prop)
 | [.x 0 []],[.ext false (.s false 7 n c)]=>some fun Q=>∃ l:List Nd,n=l.length∧IsC n 7 c (cN l)∧l.length≤2513169434916∧Q (.o 0) [.rowc 109 7 l.length (.fn (cN l))]
 | _,_=>none
theorem zOn(args:List SV)(h:List HO)(tr:(SV→List HO→Prop)→Prop)(Q:SV→List HO→Prop)(hc:gCp args h=some tr)(ht:tr Q):qI Tryz.prog 32 args h Q:=by
 unfold gCp at hc
 split at hc
 ·rename_i n c
  simp only[sI] at hc
  subst hc
  obtain⟨l,rfl,he,hb,hq⟩:=ht
  exact qI.ac (zCl l hb Q hq) ⟨⟨rfl,rfl,rfl,rfl,he⟩,trivial⟩
 ·cases hc
theorem qZa(b b2:Bool)(l l2:List Int)(hl:l.length=l2.length)(hb:l.length≤4398046511104)(Q:SV→List HO→Prop)(hq1:(∀ k,k<l.length→gI l k=gI l2 k)→Q (.v (.bool true)) [])(hq0:(∃ k,k<l.length∧¬ (gI l k=gI l2 k))→Q (.v (.bool false)) []):
  ∀(d k:Nat),k+d=l.length→(∀ k',k'<k→gI l k'=gI l2 k') →
  FOk Tryz.prog Tryz.f14 Q (.rnd [0,0,1,0,1,1] (d+1)::[.blk 0,.at [1,1,1]]) ⟨[(5,.v (.int .i64 (k:Int))),(4,.v (.bool false)),(0,.x 0 []),(1,.x 1 [])],[.ext b (.s false 1 l.length (cI l)),.ext b2 (.s false 1 l2.length (cI l2))]⟩
 | 0,k,hd,he=>by
  refine FOk.rnd (qC hm 60 ((siR b b2 l l2 l.length l2.length k 0 _ _).mpr ⟨?_⟩))
  simp only[qD]
  rw[if_neg (by omega)]
  exact hq1 fun k' hk'=>he k' (by omega)
 | d+1,k,hd,he=>by
  refine FOk.rnd (qC hm 60 ((siR b b2 l l2 l.length l2.length k (d+1) _ _).mpr ⟨?_⟩))
  simp only[qD,qV,zC,forall_const]
  rw[if_pos (by omega)]
  repeat' (first | refine And.intro (by omega) ?_ | refine qG (fun h=>?_) (fun h=>?_))
  ·rw[qK _ (by omega)]
   refine qZa b b2 l l2 hl hb Q hq1 hq0 d (k+1) (by omega) fun k' hk'=>?_
   by_cases hh:k'=k
   ·rw[hh]; exact h
   ·exact he k' (by omega)
  ·exact hq0 ⟨k,by omega,h⟩
theorem bsi:Tryz.f14.body.isSome=true:=by kernel_rfl
theorem nsi:Nat.ble [SV.x 0 [],.x 1 []].length Tryz.f14.ntmps=true:=by kernel_rfl
theorem zQg(b b2:Bool)(l l2:List Int)(hb:l.length≤4398046511104)(Q:SV→List HO→Prop)(hq1:l.length=l2.length→(∀ k,k<l.length→gI l k=gI l2 k)→Q (.v (.bool true)) [])(hq0:(l.length≠l2.length∨∃ k,k<l.length∧¬ (gI l k=gI l2 k))→Q (.v (.bool false)) []):qI Tryz.prog 14 [.x 0 [],.x 1 []] [.ext b (.s false 1 l.length (cI l)),.ext b2 (.s false 1 l2.length (cI l2))] Q:=by
 refine qL Tryz.func14 bsi ?_ ?_
 ·exact nsi
 refine qC hm 60 ((siS b b2 l l2 l.length l2.length _ _).mpr ⟨?_⟩)
 simp only[qV,zC]
 refine qG (fun h=>?_) (fun h=>hq0 (.inl (by omega)))
 have h':l.length=l2.length:=by omega
 exact FOk.loop (l.length+1) (by kernel_rfl) (qZa b b2 l l2 h' hb Q (hq1 h') (fun hh=>hq0 (.inr hh)) l.length 0 (by omega) fun k' hk'=>by omega)
theorem zAc(b b2:Bool)(l l2:List Nd)(hl:l.length=l2.length)(hb:l.length≤4398046511104)(Q:SV→List HO→Prop)(hq1:(∀ k,k<l.length→[(gN l k).op,(gN l k).a,(gN l k).b,((qF (gN l k).v 0:Nat):Int),(qF (gN l k).v 1:Nat),(qF (gN l k).v 2:Nat),(qF (gN l k).v 3:Nat)]=[(gN l2 k).op,(gN l2 k).a,(gN l2 k).b,((qF (gN l2 k).v 0:Nat):Int),(qF (gN l2 k).v 1:Nat),(qF (gN l2 k).v 2:Nat),(qF (gN l2 k).v 3:Nat)])→Q (.v (.bool true)) [])(hq0:(∃ k,k<l.length∧¬ ([(gN l k).op,(gN l k).a,(gN l k).b,((qF (gN l k).v 0:Nat):Int),(qF (gN l k).v 1:Nat),(qF (gN l k).v 2:Nat),(qF (gN l k).v 3:Nat)]=[(gN l2 k).op,(gN l2 k).a,(gN l2 k).b,((qF (gN l2 k).v 0:Nat):Int),(qF (gN l2 k).v 1:Nat),(qF (gN l2 k).v 2:Nat),(qF (gN l2 k).v 3:Nat)]))→Q (.v (.bool false)) []):
  ∀(d k:Nat),k+d=l.length→(∀ k',k'<k→[(gN l k').op,(gN l k').a,(gN l k').b,((qF (gN l k').v 0:Nat):Int),(qF (gN l k').v 1:Nat),(qF (gN l k').v 2:Nat),(qF (gN l k').v 3:Nat)]=[(gN l2 k').op,(gN l2 k').a,(gN l2 k').b,((qF (gN l2 k').v 0:Nat):Int),(qF (gN l2 k').v 1:Nat),(qF (gN l2 k').v 2:Nat),(qF (gN l2 k').v 3:Nat)]) →
  FOk Tryz.prog Tryz.f50 Q (.rnd [0,0,1,0,1,1] (d+1)::[.blk 0,.at [1,1,1]]) ⟨[(5,.v (.int .i64 (k:Int))),(4,.v (.bool false)),(0,.x 0 []),(1,.x 1 [])],[.ext b (.s false 7 l.length (cN l)),.ext b2 (.s false 7 l2.length (cN l2))]⟩
 | 0,k,hd,he=>by
  refine FOk.rnd (qC hm 60 ((snR b b2 l l2 l.length l2.length k 0 _ _).mpr ⟨?_⟩))
  simp only[qD]
  rw[if_neg (by omega)]
  exact hq1 fun k' hk'=>he k' (by omega)
 | d+1,k,hd,he=>by
  refine FOk.rnd (qC hm 60 ((snR b b2 l l2 l.length l2.length k (d+1) _ _).mpr ⟨?_⟩))
  simp only[qD,qV,forall_const]
  rw[if_pos (by omega)]
  repeat' (first | refine And.intro (by omega) ?_ | refine qG (fun h=>?_) (fun h=>?_))
  ·rw[qK _ (by omega)]
   refine zAc b b2 l l2 hl hb Q hq1 hq0 d (k+1) (by omega) fun k' hk'=>?_
   by_cases hh:k'=k
   ·rw[hh]; exact h
   ·exact he k' (by omega)
  ·exact hq0 ⟨k,by omega,h⟩
theorem bsn:Tryz.f50.body.isSome=true:=by kernel_rfl
theorem nsn:Nat.ble [SV.x 0 [],.x 1 []].length Tryz.f50.ntmps=true:=by kernel_rfl
theorem zPu(b b2:Bool)(l l2:List Nd)(hb:l.length≤4398046511104)(Q:SV→List HO→Prop)(hq1:l.length=l2.length→(∀ k,k<l.length→[(gN l k).op,(gN l k).a,(gN l k).b,((qF (gN l k).v 0:Nat):Int),(qF (gN l k).v 1:Nat),(qF (gN l k).v 2:Nat),(qF (gN l k).v 3:Nat)]=[(gN l2 k).op,(gN l2 k).a,(gN l2 k).b,((qF (gN l2 k).v 0:Nat):Int),(qF (gN l2 k).v 1:Nat),(qF (gN l2 k).v 2:Nat),(qF (gN l2 k).v 3:Nat)])→Q (.v (.bool true)) [])(hq0:(l.length≠l2.length∨∃ k,k<l.length∧¬ ([(gN l k).op,(gN l k).a,(gN l k).b,((qF (gN l k).v 0:Nat):Int),(qF (gN l k).v 1:Nat),(qF (gN l k).v 2:Nat),(qF (gN l k).v 3:Nat)]=[(gN l2 k).op,(gN l2 k).a,(gN l2 k).b,((qF (gN l2 k).v 0:Nat):Int),(qF (gN l2 k).v 1:Nat),(qF (gN l2 k).v 2:Nat),(qF (gN l2 k).v 3:Nat)]))→Q (.v (.bool false)) []):qI Tryz.prog 50 [.x 0 [],.x 1 []] [.ext b (.s false 7 l.length (cN l)),.ext b2 (.s false 7 l2.length (cN l2))] Q:=by
 refine qL Tryz.func50 bsn ?_ ?_
 ·exact nsn
 refine qC hm 60 ((snS b b2 l l2 l.length l2.length _ _).mpr ⟨?_⟩)
 simp only[qV,zC]
 refine qG (fun h=>?_) (fun h=>hq0 (.inl (by omega)))
 have h':l.length=l2.length:=by omega
 exact FOk.loop (l.length+1) (by kernel_rfl) (zAc b b2 l l2 h' hb Q (hq1 h') (fun hh=>hq0 (.inr hh)) l.length 0 (by omega) fun k' hk'=>by omega)
end Go.Proofs.YtlmjdcbhpffanaaGreat
/- The document's queries; the comparisons as contracts; the table. -/
namespace Go.Pl
open Go.Sx
deriving instance DecidableEq for Nd
theorem zEy{l l2:List Int}(h:l.length=l2.length)(e:∀ k,k<l.length→gI l k=gI l2 k):l=l2 :=
 List.ext_getElem h fun k hk hk2=>by have:=e k hk; simpa only[gI,List.getD_eq_getElem?_getD,List.getElem?_eq_getElem hk,List.getElem?_eq_getElem hk2,Option.getD_some] using this
theorem zKv{l l2:List Nd}(h:l.length=l2.length)(e:∀ k,k<l.length→gN l k=gN l2 k):l=l2 :=
 List.ext_getElem h fun k hk hk2=>by have:=e k hk; simpa only[gN,List.getD_eq_getElem?_getD,List.getElem?_eq_getElem hk,List.getElem?_eq_getElem hk2,Option.getD_some] using this
theorem zSw{x y:Nd}(hx:x.v<top)(hy:y.v<top)(h:[x.op,x.a,x.b,((qF x.v 0:Nat):Int),(qF x.v 1:Nat),(qF x.v 2:Nat),(qF x.v 3:Nat)]=[y.op,y.a,y.b,((qF y.v 0:Nat):Int),(qF y.v 1:Nat),(qF y.v 2:Nat),(qF y.v 3:Nat)]):x=y:=by
 simp only[List.cons.injEq,and_true] at h
 have:=zPe hx hy (by simp only[List.cons.injEq,and_true]; omega)
 cases x; cases y
 simp only at h this
 rw[h.1,h.2.1,h.2.2.1,this]
end Go.Pl
namespace Go.Proofs.YtlmjdcbhpffanaaGreat
open Go.Sx Go.Pl
set_option linter.unusedVariables false
set_option maxRecDepth 100000
noncomputable def gSi:List SV→List HO→Option ((SV→List HO→Prop)→Prop)
 | [.x 0 [],.x 1 []],[.ext _ (.s false 1 n c),.ext _ (.s false 1 n2 c2)]=>some fun Q=>∃ l:List Int,n=l.length∧IsC n 1 c (cI l)∧l.length≤4398046511104∧∃ l2:List Int,n2=l2.length∧IsC n2 1 c2 (cI l2)∧Q (.v (.bool (decide (l=l2)))) []
 | _,_=>none
theorem zLl(args:List SV)(h:List HO)(tr:(SV→List HO→Prop)→Prop)(Q:SV→List HO→Prop)(hc:gSi args h=some tr)(ht:tr Q):qI Tryz.prog 14 args h Q:=by
 unfold gSi at hc
 split at hc
 ·rename_i b n c b2 n2 c2
  simp only[sI] at hc
  subst hc
  obtain⟨l,rfl,he,hb,l2,rfl,he2,hq⟩:=ht
  refine qI.ac (zQg b b2 l l2 hb Q (fun h1 h2=>?_) (fun h1=>?_)) ⟨⟨rfl,rfl,rfl,rfl,he⟩,⟨rfl,rfl,rfl,rfl,he2⟩,trivial⟩
  ·rw[decide_eq_true (zEy h1 h2)] at hq; exact hq
  ·rw[decide_eq_false (fun hh=>by subst hh; exact h1.elim (fun h=>h rfl) (fun⟨_,_,h⟩=>h rfl))] at hq; exact hq
 ·cases hc
noncomputable def gSn:List SV→List HO→Option ((SV→List HO→Prop)→Prop)
 | [.x 0 [],.x 1 []],[.ext _ (.s false 7 n c),.ext _ (.s false 7 n2 c2)]=>some fun Q=>∃ l:List Nd,n=l.length∧IsC n 7 c (cN l)∧l.length≤4398046511104∧∃ l2:List Nd,n2=l2.length∧IsC n2 7 c2 (cN l2)∧(∀ x∈l,x.v<top)∧(∀ x∈l2,x.v<top)∧Q (.v (.bool (decide (l=l2)))) []
 | _,_=>none
theorem zLm(args:List SV)(h:List HO)(tr:(SV→List HO→Prop)→Prop)(Q:SV→List HO→Prop)(hc:gSn args h=some tr)(ht:tr Q):qI Tryz.prog 50 args h Q:=by
 unfold gSn at hc
 split at hc
 ·rename_i b n c b2 n2 c2
  simp only[sI] at hc
  subst hc
  obtain⟨l,rfl,he,hb,l2,rfl,he2,hv,hv2,hq⟩:=ht
  refine qI.ac (zPu b b2 l l2 hb Q (fun h1 h2=>?_) (fun h1=>?_)) ⟨⟨rfl,rfl,rfl,rfl,he⟩,⟨rfl,rfl,rfl,rfl,he2⟩,trivial⟩
  ·rw[decide_eq_true (zKv h1 fun k hk=>zSw (hv _ (qDw hk)) (hv2 _ (qDw (by omega))) (h2 k hk))] at hq; exact hq
  ·rw[decide_eq_false (fun hh=>by subst hh; exact h1.elim (fun h=>h rfl) (fun⟨_,_,h⟩=>h rfl))] at hq; exact hq
 ·cases hc
noncomputable def K10:Con Tryz.prog:=(((((K8.add 75 gRc zPf).add 115 gRd zKe).add 124 gAt zMm).add 32 gCp zOn).add 14 gSi zLl).add 50 gSn zLm
end Go.Proofs.YtlmjdcbhpffanaaGreat
/- The document's queries. -/
namespace Go.Proofs.YtlmjdcbhpffanaaGreat
open Go.Sx Go.Pl
set_option linter.unusedVariables false
set_option maxRecDepth 100000
theorem rqR(b:Bool)(l:List Nd)(out:List (Int×Int×Int))(n k m M:Nat)(K:List It→St→Prop)(R:SV→List HO→Prop):W (xwp Tryz.prog X K10 [(114,[])] 60 (qO Tryz.f91 [] [⟨[0,1,0,1,1],[4,0,3],[]⟩]) [] (.at [0,0,1,0,1,1]::.rnd [0,0,1,0,1,1] M::[.blk 0,.at [1,1,1]]) ⟨[(4,.v (.int .i64 (k:Int))),(0,.x 0 []),(3,.o 1)],[.ext b (.s false 7 n (cN l)),.rowc 156 3 m (.fn (cQ out))]⟩ K R)=W (bif decide ((↑k:Int)<(↑n:Int)) then(∀ M:Mem,(0:Int)≤(↑k:Int)∧(↑k:Int)<(↑n:Int))∧(∀ M:Mem,k<n)∧(∀ M:Mem,k<n)∧(∀ M:Mem,(0:Int)≤(↑k:Int)∧(↑k:Int)<(↑n:Int))∧(∀ M:Mem,k<n)∧(∀ M:Mem,k<n)∧(∀ M:Mem,(0:Int)≤(↑k:Int)∧(↑k:Int)<(↑n:Int))∧(∀ M:Mem,k<n)∧(∀ M:Mem,k<n)∧(∀ M:Mem,0+3≤3)∧(∀ M:Mem,(0:Int)≤(↑k:Int)∧(↑k:Int)<(↑n:Int))∧(∀ M:Mem,k<n)∧bif decide ((2:Int)≤(gN l k).1) then bif decide ((gN l k).1≤(4:Int)) then ∃(l_1:List (Int×Int×Int)),m=List.length l_1∧IsC m 3 (cQ out) (cQ l_1)∧List.length l_1≤4398046511104∧bif decide (zB (xB (gN l k).1 (gN l k).2 (gN l k).3) 0 l_1<(0:Int)) then(∀ M:Mem,(m+1)*24≤140737488355328∧m+1≤140737488355328)∧K [.rnd [0,0,1,0,1,1] M,.blk 0,.at [1,1,1]] (St.mk [(4,.v (qA (IntKind.wrap .i64 ((↑k:Int)+(1:Int))))),(0,.x 0 []),(3,.o 1)] [.ext b (.s false 7 n (cN l)),.rowc 156 3 (m+1) (.app m (.fn (cQ out)) (.lit 3 [.v (qA (gN l k).1),.v (qA (gN l k).2),.v (qA (gN l k).3)]))]) else K [.rnd [0,0,1,0,1,1] M,.blk 0,.at [1,1,1]] (St.mk [(4,.v (qA (IntKind.wrap .i64 ((↑k:Int)+(1:Int))))),(0,.x 0 []),(3,.o 1)] [.ext b (.s false 7 n (cN l)),.rowc 156 3 m (.fn (cQ out))]) else K [.rnd [0,0,1,0,1,1] M,.blk 0,.at [1,1,1]] (St.mk [(4,.v (qA (IntKind.wrap .i64 ((↑k:Int)+(1:Int))))),(0,.x 0 []),(3,.o 1)] [.ext b (.s false 7 n (cN l)),.rowc 156 3 m (.fn (cQ out))]) else K [.rnd [0,0,1,0,1,1] M,.blk 0,.at [1,1,1]] (St.mk [(4,.v (qA (IntKind.wrap .i64 ((↑k:Int)+(1:Int))))),(0,.x 0 []),(3,.o 1)] [.ext b (.s false 7 n (cN l)),.rowc 156 3 m (.fn (cQ out))]) else R (.o 0) [.rowc 156 3 m (.fn (cQ out))]):=by kernel_rfl
theorem rqS(b:Bool)(l:List Nd)(K:List It→St→Prop)(R:SV→List HO→Prop):W (xwp Tryz.prog X K10 [(114,[])] 60 (qO Tryz.f91 [] [⟨[0,1,0,1,1],[4,0,3],[]⟩]) [] [.at []] ⟨qQ 0 [.x 0 []],[.ext b (.s false 7 l.length (cN l))]⟩ K R)=W (K [.at [0,1,0,1,1],.blk 0,.at [1,1,1]] (St.mk [(4,.v (qA 0)),(0,.x 0 []),(3,.o 1)] [.ext b (.s false 7 l.length (cN l)),.rowc 156 3 0 (.lit 3 [])])):=by kernel_rfl
theorem qQz(b:Bool)(all:List Nd)(hb:all.length≤4000000000000)(Q:SV→List HO→Prop)(hq:Q (.o 0) [.rowc 156 3 (qsN [] all).length (.fn (cQ (qsN [] all)))]):
  ∀(d k:Nat) (out:List (Int×Int×Int)),k+d=all.length→out.length≤k→qsN [] all=qsN out (all.drop k) →
  FOk Tryz.prog Tryz.f91 Q (.rnd [0,0,1,0,1,1] (d+1)::[.blk 0,.at [1,1,1]]) ⟨[(4,.v (.int .i64 (k:Int))),(0,.x 0 []),(3,.o 1)],[.ext b (.s false 7 all.length (cN all)),.rowc 156 3 out.length (.fn (cQ out))]⟩
 | 0,k,out,hd,hl,he=>by
  refine FOk.rnd (qC hm 60 ((rqR b all out all.length k out.length 0 _ _).mpr ⟨?_⟩))
  simp only[qD]
  rw[if_neg (by omega)]
  rw[he,show k=all.length by omega,List.drop_length] at hq
  exact hq
 | d+1,k,out,hd,hl,he=>by
  have hk:k<all.length:=by omega
  rw[qEi hk] at he
  have same:qsN out (gN all k::all.drop (k+1))=qsN out (all.drop (k+1))→FOk Tryz.prog Tryz.f91 Q (.rnd [0,0,1,0,1,1] (d+1)::[.blk 0,.at [1,1,1]]) ⟨[(4,.v (.int .i64 (IntKind.wrap .i64 ((k:Int)+1)))),(0,.x 0 []),(3,.o 1)],[.ext b (.s false 7 all.length (cN all)),.rowc 156 3 out.length (.fn (cQ out))]⟩:=fun h=>by
   rw[qK _ (by omega)]
   exact qQz b all hb Q hq d (k+1) out (by omega) (by omega) (by rw[he,h])
  have new:2≤(gN all k).op∧(gN all k).op≤4→((gN all k).op,(gN all k).a,(gN all k).b)∉out→FOk Tryz.prog Tryz.f91 Q (.rnd [0,0,1,0,1,1] (d+1)::[.blk 0,.at [1,1,1]]) ⟨[(4,.v (.int .i64 (IntKind.wrap .i64 ((k:Int)+1)))),(0,.x 0 []),(3,.o 1)],[.ext b (.s false 7 all.length (cN all)),.rowc 156 3 (out.length+1) (.app out.length (.fn (cQ out)) (.lit 3 [.v (.int .i64 (gN all k).op),.v (.int .i64 (gN all k).a),.v (.int .i64 (gN all k).b)]))]⟩:=fun h h2=>by
   rw[qK _ (by omega)]
   have next:=qQz b all hb Q hq d (k+1) (out++[((gN all k).op,(gN all k).a,(gN all k).b)]) (by omega) (by simp; omega) (by rw[he,qYu out _ h h2])
   rw[List.length_append,List.length_singleton] at next
   exact FOk.cv next ⟨HE.refl _,⟨rfl,rfl,rfl,zAi ((gN all k).op,(gN all k).a,(gN all k).b) rfl⟩,trivial⟩
  have has:=qZk (gN all k).op (gN all k).a (gN all k).b out
  refine FOk.rnd (qC hm 60 ((rqR b all out all.length k out.length (d+1) _ _).mpr ⟨?_⟩))
  simp only[qD,forall_const]
  repeat' (first | refine And.intro ?_ ?_ | refine qG (fun _=>?_) (fun _=>?_) | refine Exists.intro out ?_)
  all_goals first
   | omega
   | exact IsC.refl _ _ _
   | exact same (zEc out _ (by omega))
   | exact new ⟨by omega,by omega⟩ (fun hh=>by have:=has.mpr hh; omega)
   | exact same (qRf out _ (has.mp (by omega)))
theorem bRq:Tryz.f91.body.isSome=true:=by kernel_rfl
theorem nRq:Nat.ble [SV.x 0 []].length Tryz.f91.ntmps=true:=by kernel_rfl
theorem qTc(b:Bool)(all:List Nd)(hb:all.length≤4000000000000)(Q:SV→List HO→Prop)(hq:Q (.o 0) [.rowc 156 3 (qsN [] all).length (.fn (cQ (qsN [] all)))]):qI Tryz.prog 91 [.x 0 []] [.ext b (.s false 7 all.length (cN all))] Q:=by
 refine qL Tryz.func91 bRq ?_ ?_
 ·exact nRq
 refine qC hm 60 ((rqS b all _ _).mpr ⟨?_⟩)
 exact FOk.loop (all.length+1) (by kernel_rfl) (FOk.cv (qQz b all hb Q hq all.length 0 [] (by omega) (Nat.le_refl _) rfl) ⟨HE.refl _,⟨rfl,rfl,rfl,fun k hk=>by omega⟩,trivial⟩)
noncomputable def gRq:List SV→List HO→Option ((SV→List HO→Prop)→Prop)
 | [.x 0 []],[.ext _ (.s false 7 n c)]=>some fun Q=>∃ l:List Nd,n=l.length∧IsC n 7 c (cN l)∧l.length≤4000000000000∧Q (.o 0) [.rowc 156 3 (qsN [] l).length (.fn (cQ (qsN [] l)))]
 | _,_=>none
theorem zMo(args:List SV)(h:List HO)(tr:(SV→List HO→Prop)→Prop)(Q:SV→List HO→Prop)(hc:gRq args h=some tr)(ht:tr Q):qI Tryz.prog 91 args h Q:=by
 unfold gRq at hc
 split at hc
 ·rename_i b n c
  simp only[sI] at hc
  subst hc
  obtain⟨l,rfl,he,hb,hq⟩:=ht
  exact qI.ac (qTc b l hb Q hq) ⟨⟨rfl,rfl,rfl,rfl,he⟩,trivial⟩
 ·cases hc
noncomputable def K12:Con Tryz.prog:=K10.add 91 gRq zMo
end Go.Proofs.YtlmjdcbhpffanaaGreat
/- Reversing a list. -/
namespace Go.Pl
open Go.Sx
def cF(f:Nat→Int):Nat→Nat→qB:=fun k _=>.v (.int .i64 (f k))
def swF(c:Nat→Int)(i j:Nat):Nat→Int:=fun p=>if p=j then c i else if p=i then c j else c p
theorem zIe(c:Nat→Int)(i j n:Nat):IsC n 1 (Ct.upd (Ct.upd (.fn (cF c)) i 0 [.v (.int .i64 (c j))]) j 0 [.v (.int .i64 (c i))]).at (Ct.fn (cF (swF c i j))).at:=by
 intro k hk p hp
 have:p=0:=by omega
 subst this
 simp only[Ct.at,qJp,cF,swF,List.length_singleton,Nat.sub_zero,Nat.le_refl,Nat.zero_lt_one,and_true]
 by_cases h1:k=j
 ·simp [h1]
 ·by_cases h2:k=i
  ·simp [h2,show ¬ i=j from fun hh=>h1 (h2.trans hh)]
  ·simp [h1,h2]
end Go.Pl
namespace Go.Proofs.YtlmjdcbhpffanaaGreat
open Go.Sx Go.Pl
set_option linter.unusedVariables false
set_option maxRecDepth 100000
theorem rvR(n i j M:Nat)(c:Nat→Int)(K:List It→St→Prop)(R:SV→List HO→Prop):W (xwp Tryz.prog X K12 [] 60 (fxM 1 Tryz.f138 [] [⟨[0,1],[2,3,0],[]⟩]) [] (.at [0,0,1]::.rnd [0,0,1] M::[.blk 0]) ⟨[(2,.v (.int .i64 (i:Int))),(3,.v (.int .i64 (j:Int))),(0,.o 0)],[.rowc 3 1 n (.fn (cF c))]⟩ K R)=W (bif decide ((↑i:Int)<(↑j:Int)) then(∀ M:Mem,(0:Int)≤(↑j:Int)∧(↑j:Int)<(↑n:Int))∧(∀ M:Mem,j<n)∧(∀ M:Mem,(0:Int)≤(↑i:Int)∧(↑i:Int)<(↑n:Int))∧(∀ M:Mem,i<n)∧(∀ M:Mem,(0:Int)≤(↑i:Int)∧(↑i:Int)<(↑n:Int))∧(∀ M:Mem,i<n)∧(∀ M:Mem,(0:Int)≤(↑j:Int)∧(↑j:Int)<(↑n:Int))∧(∀ M:Mem,j<n)∧K [.rnd [0,0,1] M,.blk 0] (St.mk [(2,.v (qA (IntKind.wrap .i64 ((↑i:Int)+(1:Int))))),(3,.v (qA (IntKind.wrap .i64 ((↑j:Int)-(1:Int))))),(0,.o 0)] [.rowc 3 1 n (.upd (.upd (.fn (cF c)) i 0 [.v (qA (c j))]) j 0 [.v (qA (c i))])]) else R (.tup []) [.rowc 3 1 n (.fn (cF c))]):=by kernel_rfl
theorem rvS(n:Nat)(c:Nat→Int)(K:List It→St→Prop)(R:SV→List HO→Prop):W (xwp Tryz.prog X K12 [] 60 (fxM 1 Tryz.f138 [] [⟨[0,1],[2,3,0],[]⟩]) [] [.at []] ⟨qQ 0 [.o 0],[.rowc 3 1 n (.fn (cF c))]⟩ K R)=W (K [.at [0,1],.blk 0] (St.mk [(2,.v (qA 0)),(3,.v (qA (IntKind.wrap .i64 ((↑n:Int)-(1:Int))))),(0,.o 0)] [.rowc 3 1 n (.fn (cF c))])):=by kernel_rfl
theorem rvE(M:Nat)(n:Nat)(c:Nat→Int)(K:List It→St→Prop)(R:SV→List HO→Prop):W (xwp Tryz.prog X K12 [] 60 (fxM 1 Tryz.f138 [] [⟨[0,1],[2,3,0],[]⟩]) [] (.at [0,0,1]::.rnd [0,0,1] M::[.blk 0]) ⟨[(2,.v (.int .i64 0)),(3,.v (.int .i64 (-1))),(0,.o 0)],[.rowc 3 1 n (.fn (cF c))]⟩ K R)=W (R (.tup []) [.rowc 3 1 n (.fn (cF c))]):=by kernel_rfl
theorem qYw(n:Nat)(hn:0<n)(hb:n≤4398046511104)(c0:Nat→Int)(Q:SV→List HO→Prop)(hq:∀ c:Nat→Int,(∀ p,p<n→c p=c0 (n-1-p))→Q (.tup []) [.rowc 3 1 n (.fn (cF c))]):
  ∀(d k:Nat) (c:Nat→Int),k+d=n→2*k≤n→(∀ p,p<n→c p=if p<k∨n-k≤p then c0 (n-1-p) else c0 p) →
  zX Tryz.prog 1 Tryz.f138 Q (.rnd [0,0,1] (d+1)::[.blk 0]) ⟨[(2,.v (.int .i64 (k:Int))),(3,.v (.int .i64 ((n-1-k:Nat):Int))),(0,.o 0)],[.rowc 3 1 n (.fn (cF c))]⟩
 | 0,k,c,hd,hk,he=>by omega
 | d+1,k,c,hd,hk,he=>by
  refine FOk.rnd (qT hm 60 ((rvR n k (n-1-k) (d+1) c _ _).mpr ⟨?_⟩))
  simp only[qD,forall_const]
  refine qG (fun h=>?_) (fun h=>?_)
  ·repeat' (first | refine And.intro (by omega) ?_)
   rw[qK _ (by omega),qBs _ (by omega),show((n-1-k:Nat):Int)-1=((n-1-(k+1):Nat):Int) by omega]
   refine FOk.cv (qYw n hn hb c0 Q hq d (k+1) (swF c k (n-1-k)) (by omega) (by omega) (fun p hp=>?_)) ⟨⟨rfl,rfl,rfl,zIe c k (n-1-k) n⟩,trivial⟩
   unfold swF
   by_cases h1:p=n-1-k
   ·rw[if_pos h1,if_pos (by omega),he k (by omega),if_neg (by omega),show n-1-p=k by omega]
   ·rw[if_neg h1]
    by_cases h2:p=k
    ·rw[if_pos h2,if_pos (by omega),he (n-1-k) (by omega),if_neg (by omega),h2]
    ·rw[if_neg h2,he p hp]
     by_cases h3:p<k∨n-k≤p
     ·rw[if_pos h3,if_pos (by omega)]
     ·rw[if_neg h3,if_neg (by omega)]
  ·refine hq c fun p hp=>?_
   rw[he p hp]
   by_cases h3:p<k∨n-k≤p
   ·rw[if_pos h3]
   ·rw[if_neg h3,show n-1-p=p by omega]
theorem bRv:Tryz.f138.body.isSome=true:=by kernel_rfl
theorem nRv:Nat.ble [SV.o 0].length Tryz.f138.ntmps=true:=by kernel_rfl
theorem qWg(n:Nat)(hb:n≤4398046511104)(c0:Nat→Int)(Q:SV→List HO→Prop)(hq:∀ c:Nat→Int,(∀ p,p<n→c p=c0 (n-1-p))→Q (.tup []) [.rowc 3 1 n (.fn (cF c))]):zS Tryz.prog 1 138 [.o 0] [.rowc 3 1 n (.fn (cF c0))] Q:=by
 refine qL Tryz.func138 bRv ?_ ?_
 ·exact nRv
 refine qT hm 60 ((rvS n c0 _ _).mpr ⟨?_⟩)
 rcases Nat.eq_zero_or_pos n with h0 | h0
 ·rw[show IntKind.wrap .i64 ((n:Int)-1) = -1 by rw[qBs _ (by omega)]; omega]
  refine FOk.loop 1 (by kernel_rfl) (FOk.rnd (qT hm 60 ((rvE 0 n c0 _ _).mpr ⟨?_⟩)))
  exact hq c0 fun p hp=>by omega
 ·rw[qBs _ (by omega),show(n:Int)-1=((n-1-0:Nat):Int) by omega]
  exact FOk.loop (n+1) (by kernel_rfl) (qYw n h0 hb c0 Q hq n 0 c0 (by omega) (by omega) fun p hp=>by rw[if_neg (by omega)])
noncomputable def gRv:List SV→List HO→Option ((SV→List HO→Prop)→Prop)
 | [.o 0],[.rowc 3 1 n c]=>some fun Q=>∃ l:List Int,n=l.length∧IsC n 1 c.at (cI l)∧l.length≤4398046511104∧Q (.tup []) [.rowc 3 1 l.length (.fn (cI l.reverse))]
 | _,_=>none
theorem zPl(args:List SV)(h:List HO)(tr:(SV→List HO→Prop)→Prop)(Q:SV→List HO→Prop)(hc:gRv args h=some tr)(ht:tr Q):zS Tryz.prog h.length 138 args h Q:=by
 unfold gRv at hc
 split at hc
 ·rename_i n c
  simp only[sI] at hc
  subst hc
  obtain⟨l,rfl,he,hb,hq⟩:=ht
  refine qI.mono (qI.eqv (r0:=.tup []) (h0:=[.rowc 3 1 l.length (.fn (cI l.reverse))]) ?_) (fun r h' hh=>by rw[hh.1,hh.2]; exact hq)
  refine qI.ac (qWg l.length hb (gI l) _ fun c hc=>?_) ⟨⟨rfl,rfl,rfl,he⟩,trivial⟩
  refine⟨rfl,⟨rfl,rfl,rfl,fun k hk j hj=>?_⟩,trivial⟩
  show qB.v (.int .i64 (c k))=qB.v (.int .i64 (gI l.reverse k))
  rw[hc k hk]
  simp only[gI,List.getD_eq_getElem?_getD,List.getElem?_reverse hk]
 ·cases hc
noncomputable def K13:Con Tryz.prog:=K12.addW 138 gRv zPl
end Go.Proofs.YtlmjdcbhpffanaaGreat
/- A node's cone. -/
namespace Go.Pl
open Go.Sx
theorem qFh{n sz:Nat}{c c':Nat→Nat→qB}(h:IsC n sz c c')(k j:Nat)(l:List qB):IsC n sz (qNa c k j l) (qNa c' k j l):=by
 intro a ha b hb
 rw[qJp,qJp]
 split
 ·rfl
 ·exact h a ha b hb
theorem qZc{w:List Bool}{n a b:Nat}(h:w.length=n)(ha:a<n)(hb:b<n):IsC n 1 (Ct.upd (Ct.upd (.fn (cB w)) a 0 [.v (.bool true)]) b 0 [.v (.bool true)]).at (Ct.fn (cB ((w.set a true).set b true))).at :=
 IsC.trans (qFh (qFz true h ha) b 0 [.v (.bool true)]) (qFz true (by rw[List.length_set]; exact h) hb)
theorem qSz{l:List Nd}{k:Nat}{w:List Bool}(hk:k<l.length)(h:gB w k=true):xX l k w=(xZ (gN l k)).foldl (fun w j=>w.set j.toNat true) w:=by
 have h':w.getD k false=true:=h
 rw[xX,if_pos h',gN,List.getD_eq_getElem?_getD,List.getElem?_eq_getElem hk]
 rfl
theorem zHg{l:List Nd}{k:Nat}{w:List Bool}(out:List Int)(h:gB w k=true):qGp l (k+1) w out=qGp l k (xX l k w) (out++[(k:Int)]):=by
 rw[qGp,if_pos (show w.getD k false=true from h)]
theorem zJz{l:List Nd}{k:Nat}{w:List Bool}(out:List Int)(h:gB w k=false):qGp l (k+1) w out=qGp l k w out:=by
 rw[qGp,if_neg (by rw[show w.getD k false=false from h]; exact Bool.false_ne_true)]
end Go.Pl
namespace Go.Proofs.YtlmjdcbhpffanaaGreat
open Go.Sx Go.Pl
set_option linter.unusedVariables false
set_option maxRecDepth 100000
theorem coc(l:List Nd)(w:List Bool)(out:List Int)(n k m M:Nat)(K:List It→St→Prop)(R:SV→List HO→Prop):W (xwp Tryz.prog X K13 [(172,[]),(176,[]),(179,[]),(187,[])] 60 (qO Tryz.f122 [([0,1,0,1,1,1,1,0,0,1,0,0,1,0,1,1,1,1,1,1],3)] [⟨[0,1,0,1,1,1,1,1,1],[9,7,8,5],[(8,3,1)]⟩]) [.as 55 (.v (.iface 200 (.agg #[.int .u64 (qF (gN l k).v 0:Nat),.int .u64 (qF (gN l k).v 1:Nat),.int .u64 (qF (gN l k).v 2:Nat),.int .u64 (qF (gN l k).v 3:Nat)])))] (.at [0,0,1,0,1,1,1,1,1,1]::.rnd [0,0,1,0,1,1,1,1,1,1] M::[.blk 0,.at [1,1,1,1,1,1,1]]) ⟨[(9,.v (.int .i64 (k:Int))),(7,.o 0),(8,.o 1),(5,.o 2)],[.rowc 4 1 n (.fn (cB w)),.rowc 3 1 m (.fn (cI out)),.rowc 190 1 n (.fn (cS l))]⟩ K R)=W ((∀ M:Mem,(0:Int)≤(↑k:Int)∧(↑k:Int)<(↑n:Int))∧(∀ M:Mem,k<n)∧bif !gB w k then K [.rnd [0,0,1,0,1,1,1,1,1,1] M,.blk 0,.at [1,1,1,1,1,1,1]] (St.mk [(9,.v (qA (IntKind.wrap .i64 ((↑k:Int)-(1:Int))))),(7,.o 0),(8,.o 1),(5,.o 2)] [.rowc 4 1 n (.fn (cB w)),.rowc 3 1 m (.fn (cI out)),.rowc 190 1 n (.fn (cS l))]) else(∀ M:Mem,(m+1)*8≤140737488355328∧m+1≤140737488355328)∧(∀ M:Mem,(0:Int)≤(↑k:Int)∧(↑k:Int)<(↑n:Int))∧(∀ M:Mem,k<n)∧(∀ M:Mem,stV (gN l k)=Value.iface 200 (Value.agg (Array.mk [qE (↑(qF (gN l k).4 0):Int),qE (↑(qF (gN l k).4 1):Int),qE (↑(qF (gN l k).4 2):Int),qE (↑(qF (gN l k).4 3):Int)])))∧K [.rnd [0,0,1,0,1,1,1,1,1,1] M,.blk 0,.at [1,1,1,1,1,1,1]] (St.mk [(9,.v (qA (IntKind.wrap .i64 ((↑k:Int)-(1:Int))))),(7,.o 0),(8,.o 1),(5,.o 2)] [.rowc 4 1 n (.fn (cB w)),.rowc 3 1 (m+1) (.app m (.fn (cI out)) (.lit 1 [.v (qA (↑k:Int))])),.rowc 190 1 n (.fn (cS l))])):=by kernel_rfl
theorem con(l:List Nd)(w:List Bool)(out:List Int)(n k m M:Nat)(K:List It→St→Prop)(R:SV→List HO→Prop):W (xwp Tryz.prog X K13 [(172,[]),(176,[]),(179,[]),(187,[])] 60 (qO Tryz.f122 [([0,1,0,1,1,1,1,0,0,1,0,0,1,0,1,1,1,1,1,1],3)] [⟨[0,1,0,1,1,1,1,1,1],[9,7,8,5],[(8,3,1)]⟩]) [.as 55 (.v (.iface 216 (.agg #[.int .i64 (gN l k).a])))] (.at [0,0,1,0,1,1,1,1,1,1]::.rnd [0,0,1,0,1,1,1,1,1,1] M::[.blk 0,.at [1,1,1,1,1,1,1]]) ⟨[(9,.v (.int .i64 (k:Int))),(7,.o 0),(8,.o 1),(5,.o 2)],[.rowc 4 1 n (.fn (cB w)),.rowc 3 1 m (.fn (cI out)),.rowc 190 1 n (.fn (cS l))]⟩ K R)=W ((∀ M:Mem,(0:Int)≤(↑k:Int)∧(↑k:Int)<(↑n:Int))∧(∀ M:Mem,k<n)∧bif !gB w k then K [.rnd [0,0,1,0,1,1,1,1,1,1] M,.blk 0,.at [1,1,1,1,1,1,1]] (St.mk [(9,.v (qA (IntKind.wrap .i64 ((↑k:Int)-(1:Int))))),(7,.o 0),(8,.o 1),(5,.o 2)] [.rowc 4 1 n (.fn (cB w)),.rowc 3 1 m (.fn (cI out)),.rowc 190 1 n (.fn (cS l))]) else(∀ M:Mem,(m+1)*8≤140737488355328∧m+1≤140737488355328)∧(∀ M:Mem,(0:Int)≤(↑k:Int)∧(↑k:Int)<(↑n:Int))∧(∀ M:Mem,k<n)∧(∀ M:Mem,stV (gN l k)=Value.iface 216 (Value.agg (Array.mk [qA (gN l k).2])))∧(∀ M:Mem,(0:Int)≤(0:Int)∧(0:Int)<(1:Int))∧(∀ M:Mem,0<1)∧(∀ M:Mem,(0:Int)≤(gN l k).2∧(gN l k).2<(↑n:Int))∧(∀ M:Mem,Int.toNat (gN l k).2<n)∧K [.rnd [0,0,1,0,1,1,1,1,1,1] M,.blk 0,.at [1,1,1,1,1,1,1]] (St.mk [(9,.v (qA (IntKind.wrap .i64 ((↑k:Int)-(1:Int))))),(7,.o 0),(8,.o 1),(5,.o 2)] [.rowc 4 1 n (.upd (.fn (cB w)) (Int.toNat (gN l k).2) 0 [.v (.bool true)]),.rowc 3 1 (m+1) (.app m (.fn (cI out)) (.lit 1 [.v (qA (↑k:Int))])),.rowc 190 1 n (.fn (cS l))])):=by kernel_rfl
theorem coa(l:List Nd)(w:List Bool)(out:List Int)(n k m M:Nat)(K:List It→St→Prop)(R:SV→List HO→Prop):W (xwp Tryz.prog X K13 [(172,[]),(176,[]),(179,[]),(187,[])] 60 (qO Tryz.f122 [([0,1,0,1,1,1,1,0,0,1,0,0,1,0,1,1,1,1,1,1],3)] [⟨[0,1,0,1,1,1,1,1,1],[9,7,8,5],[(8,3,1)]⟩]) [.as 55 (.v (.iface 218 (.agg #[.int .i64 (gN l k).a,.int .i64 (gN l k).b])))] (.at [0,0,1,0,1,1,1,1,1,1]::.rnd [0,0,1,0,1,1,1,1,1,1] M::[.blk 0,.at [1,1,1,1,1,1,1]]) ⟨[(9,.v (.int .i64 (k:Int))),(7,.o 0),(8,.o 1),(5,.o 2)],[.rowc 4 1 n (.fn (cB w)),.rowc 3 1 m (.fn (cI out)),.rowc 190 1 n (.fn (cS l))]⟩ K R)=W ((∀ M:Mem,(0:Int)≤(↑k:Int)∧(↑k:Int)<(↑n:Int))∧(∀ M:Mem,k<n)∧bif !gB w k then K [.rnd [0,0,1,0,1,1,1,1,1,1] M,.blk 0,.at [1,1,1,1,1,1,1]] (St.mk [(9,.v (qA (IntKind.wrap .i64 ((↑k:Int)-(1:Int))))),(7,.o 0),(8,.o 1),(5,.o 2)] [.rowc 4 1 n (.fn (cB w)),.rowc 3 1 m (.fn (cI out)),.rowc 190 1 n (.fn (cS l))]) else(∀ M:Mem,(m+1)*8≤140737488355328∧m+1≤140737488355328)∧(∀ M:Mem,(0:Int)≤(↑k:Int)∧(↑k:Int)<(↑n:Int))∧(∀ M:Mem,k<n)∧(∀ M:Mem,stV (gN l k)=Value.iface 218 (Value.agg (Array.mk [qA (gN l k).2,qA (gN l k).3])))∧(∀ M:Mem,(0:Int)≤(0:Int)∧(0:Int)<(2:Int))∧(∀ M:Mem,0<2)∧(∀ M:Mem,(0:Int)≤(gN l k).2∧(gN l k).2<(↑n:Int))∧(∀ M:Mem,Int.toNat (gN l k).2<n)∧(∀ M:Mem,(0:Int)≤(1:Int)∧(1:Int)<(2:Int))∧(∀ M:Mem,1<2)∧(∀ M:Mem,(0:Int)≤(gN l k).3∧(gN l k).3<(↑n:Int))∧(∀ M:Mem,Int.toNat (gN l k).3<n)∧K [.rnd [0,0,1,0,1,1,1,1,1,1] M,.blk 0,.at [1,1,1,1,1,1,1]] (St.mk [(9,.v (qA (IntKind.wrap .i64 ((↑k:Int)-(1:Int))))),(7,.o 0),(8,.o 1),(5,.o 2)] [.rowc 4 1 n (.upd (.upd (.fn (cB w)) (Int.toNat (gN l k).2) 0 [.v (.bool true)]) (Int.toNat (gN l k).3) 0 [.v (.bool true)]),.rowc 3 1 (m+1) (.app m (.fn (cI out)) (.lit 1 [.v (qA (↑k:Int))])),.rowc 190 1 n (.fn (cS l))])):=by kernel_rfl
theorem com(l:List Nd)(w:List Bool)(out:List Int)(n k m M:Nat)(K:List It→St→Prop)(R:SV→List HO→Prop):W (xwp Tryz.prog X K13 [(172,[]),(176,[]),(179,[]),(187,[])] 60 (qO Tryz.f122 [([0,1,0,1,1,1,1,0,0,1,0,0,1,0,1,1,1,1,1,1],3)] [⟨[0,1,0,1,1,1,1,1,1],[9,7,8,5],[(8,3,1)]⟩]) [.as 55 (.v (.iface 219 (.agg #[.int .i64 (gN l k).a,.int .i64 (gN l k).b])))] (.at [0,0,1,0,1,1,1,1,1,1]::.rnd [0,0,1,0,1,1,1,1,1,1] M::[.blk 0,.at [1,1,1,1,1,1,1]]) ⟨[(9,.v (.int .i64 (k:Int))),(7,.o 0),(8,.o 1),(5,.o 2)],[.rowc 4 1 n (.fn (cB w)),.rowc 3 1 m (.fn (cI out)),.rowc 190 1 n (.fn (cS l))]⟩ K R)=W ((∀ M:Mem,(0:Int)≤(↑k:Int)∧(↑k:Int)<(↑n:Int))∧(∀ M:Mem,k<n)∧bif !gB w k then K [.rnd [0,0,1,0,1,1,1,1,1,1] M,.blk 0,.at [1,1,1,1,1,1,1]] (St.mk [(9,.v (qA (IntKind.wrap .i64 ((↑k:Int)-(1:Int))))),(7,.o 0),(8,.o 1),(5,.o 2)] [.rowc 4 1 n (.fn (cB w)),.rowc 3 1 m (.fn (cI out)),.rowc 190 1 n (.fn (cS l))]) else(∀ M:Mem,(m+1)*8≤140737488355328∧m+1≤140737488355328)∧(∀ M:Mem,(0:Int)≤(↑k:Int)∧(↑k:Int)<(↑n:Int))∧(∀ M:Mem,k<n)∧(∀ M:Mem,stV (gN l k)=Value.iface 219 (Value.agg (Array.mk [qA (gN l k).2,qA (gN l k).3])))∧(∀ M:Mem,(0:Int)≤(0:Int)∧(0:Int)<(2:Int))∧(∀ M:Mem,0<2)∧(∀ M:Mem,(0:Int)≤(gN l k).2∧(gN l k).2<(↑n:Int))∧(∀ M:Mem,Int.toNat (gN l k).2<n)∧(∀ M:Mem,(0:Int)≤(1:Int)∧(1:Int)<(2:Int))∧(∀ M:Mem,1<2)∧(∀ M:Mem,(0:Int)≤(gN l k).3∧(gN l k).3<(↑n:Int))∧(∀ M:Mem,Int.toNat (gN l k).3<n)∧K [.rnd [0,0,1,0,1,1,1,1,1,1] M,.blk 0,.at [1,1,1,1,1,1,1]] (St.mk [(9,.v (qA (IntKind.wrap .i64 ((↑k:Int)-(1:Int))))),(7,.o 0),(8,.o 1),(5,.o 2)] [.rowc 4 1 n (.upd (.upd (.fn (cB w)) (Int.toNat (gN l k).2) 0 [.v (.bool true)]) (Int.toNat (gN l k).3) 0 [.v (.bool true)]),.rowc 3 1 (m+1) (.app m (.fn (cI out)) (.lit 1 [.v (qA (↑k:Int))])),.rowc 190 1 n (.fn (cS l))])):=by kernel_rfl
theorem cos(l:List Nd)(w:List Bool)(out:List Int)(n k m M:Nat)(K:List It→St→Prop)(R:SV→List HO→Prop):W (xwp Tryz.prog X K13 [(172,[]),(176,[]),(179,[]),(187,[])] 60 (qO Tryz.f122 [([0,1,0,1,1,1,1,0,0,1,0,0,1,0,1,1,1,1,1,1],3)] [⟨[0,1,0,1,1,1,1,1,1],[9,7,8,5],[(8,3,1)]⟩]) [.as 55 (.v (.iface 221 (.agg #[.int .i64 (gN l k).a,.int .u64 (qF (gN l k).v 0:Nat),.int .u64 (qF (gN l k).v 1:Nat),.int .u64 (qF (gN l k).v 2:Nat),.int .u64 (qF (gN l k).v 3:Nat)])))] (.at [0,0,1,0,1,1,1,1,1,1]::.rnd [0,0,1,0,1,1,1,1,1,1] M::[.blk 0,.at [1,1,1,1,1,1,1]]) ⟨[(9,.v (.int .i64 (k:Int))),(7,.o 0),(8,.o 1),(5,.o 2)],[.rowc 4 1 n (.fn (cB w)),.rowc 3 1 m (.fn (cI out)),.rowc 190 1 n (.fn (cS l))]⟩ K R)=W ((∀ M:Mem,(0:Int)≤(↑k:Int)∧(↑k:Int)<(↑n:Int))∧(∀ M:Mem,k<n)∧bif !gB w k then K [.rnd [0,0,1,0,1,1,1,1,1,1] M,.blk 0,.at [1,1,1,1,1,1,1]] (St.mk [(9,.v (qA (IntKind.wrap .i64 ((↑k:Int)-(1:Int))))),(7,.o 0),(8,.o 1),(5,.o 2)] [.rowc 4 1 n (.fn (cB w)),.rowc 3 1 m (.fn (cI out)),.rowc 190 1 n (.fn (cS l))]) else(∀ M:Mem,(m+1)*8≤140737488355328∧m+1≤140737488355328)∧(∀ M:Mem,(0:Int)≤(↑k:Int)∧(↑k:Int)<(↑n:Int))∧(∀ M:Mem,k<n)∧(∀ M:Mem,stV (gN l k)=Value.iface 221 (Value.agg (Array.mk [qA (gN l k).2,qE (↑(qF (gN l k).4 0):Int),qE (↑(qF (gN l k).4 1):Int),qE (↑(qF (gN l k).4 2):Int),qE (↑(qF (gN l k).4 3):Int)])))∧(∀ M:Mem,(0:Int)≤(0:Int)∧(0:Int)<(1:Int))∧(∀ M:Mem,0<1)∧(∀ M:Mem,(0:Int)≤(gN l k).2∧(gN l k).2<(↑n:Int))∧(∀ M:Mem,Int.toNat (gN l k).2<n)∧K [.rnd [0,0,1,0,1,1,1,1,1,1] M,.blk 0,.at [1,1,1,1,1,1,1]] (St.mk [(9,.v (qA (IntKind.wrap .i64 ((↑k:Int)-(1:Int))))),(7,.o 0),(8,.o 1),(5,.o 2)] [.rowc 4 1 n (.upd (.fn (cB w)) (Int.toNat (gN l k).2) 0 [.v (.bool true)]),.rowc 3 1 (m+1) (.app m (.fn (cI out)) (.lit 1 [.v (qA (↑k:Int))])),.rowc 190 1 n (.fn (cS l))])):=by kernel_rfl
theorem coq(l:List Nd)(w:List Bool)(out:List Int)(n k m M:Nat)(K:List It→St→Prop)(R:SV→List HO→Prop):W (xwp Tryz.prog X K13 [(172,[]),(176,[]),(179,[]),(187,[])] 60 (qO Tryz.f122 [([0,1,0,1,1,1,1,0,0,1,0,0,1,0,1,1,1,1,1,1],3)] [⟨[0,1,0,1,1,1,1,1,1],[9,7,8,5],[(8,3,1)]⟩]) [.as 55 (.v (.iface 193 (.agg #[.int .i64 (gN l k).op,.int .i64 (gN l k).a,.int .i64 (gN l k).b])))] (.at [0,0,1,0,1,1,1,1,1,1]::.rnd [0,0,1,0,1,1,1,1,1,1] M::[.blk 0,.at [1,1,1,1,1,1,1]]) ⟨[(9,.v (.int .i64 (k:Int))),(7,.o 0),(8,.o 1),(5,.o 2)],[.rowc 4 1 n (.fn (cB w)),.rowc 3 1 m (.fn (cI out)),.rowc 190 1 n (.fn (cS l))]⟩ K R)=W ((∀ M:Mem,(0:Int)≤(↑k:Int)∧(↑k:Int)<(↑n:Int))∧(∀ M:Mem,k<n)∧bif !gB w k then K [.rnd [0,0,1,0,1,1,1,1,1,1] M,.blk 0,.at [1,1,1,1,1,1,1]] (St.mk [(9,.v (qA (IntKind.wrap .i64 ((↑k:Int)-(1:Int))))),(7,.o 0),(8,.o 1),(5,.o 2)] [.rowc 4 1 n (.fn (cB w)),.rowc 3 1 m (.fn (cI out)),.rowc 190 1 n (.fn (cS l))]) else(∀ M:Mem,(m+1)*8≤140737488355328∧m+1≤140737488355328)∧(∀ M:Mem,(0:Int)≤(↑k:Int)∧(↑k:Int)<(↑n:Int))∧(∀ M:Mem,k<n)∧(∀ M:Mem,stV (gN l k)=Value.iface 193 (Value.agg (Array.mk [qA (gN l k).1,qA (gN l k).2,qA (gN l k).3])))∧K [.rnd [0,0,1,0,1,1,1,1,1,1] M,.blk 0,.at [1,1,1,1,1,1,1]] (St.mk [(9,.v (qA (IntKind.wrap .i64 ((↑k:Int)-(1:Int))))),(7,.o 0),(8,.o 1),(5,.o 2)] [.rowc 4 1 n (.fn (cB w)),.rowc 3 1 (m+1) (.app m (.fn (cI out)) (.lit 1 [.v (qA (↑k:Int))])),.rowc 190 1 n (.fn (cS l))])):=by kernel_rfl
theorem coE(l:List Nd)(w:List Bool)(out:List Int)(n k m M:Nat)(K:List It→St→Prop)(R:SV→List HO→Prop):W (xwp Tryz.prog X K13 [(172,[]),(176,[]),(179,[]),(187,[])] 60 (qO Tryz.f122 [([0,1,0,1,1,1,1,0,0,1,0,0,1,0,1,1,1,1,1,1],3)] [⟨[0,1,0,1,1,1,1,1,1],[9,7,8,5],[(8,3,1)]⟩]) [] (.at [0,0,1,0,1,1,1,1,1,1]::.rnd [0,0,1,0,1,1,1,1,1,1] M::[.blk 0,.at [1,1,1,1,1,1,1]]) ⟨[(9,.v (.int .i64 (-1))),(7,.o 0),(8,.o 1),(5,.o 2)],[.rowc 4 1 n (.fn (cB w)),.rowc 3 1 m (.fn (cI out)),.rowc 190 1 n (.fn (cS l))]⟩ K R)=W (∃(l:List Int),m=List.length l∧IsC m 1 (cI out) (cI l)∧List.length l≤4398046511104∧R (.o 0) [.rowc 3 1 l.length (.fn (cI (List.reverseAux l [])))]):=by kernel_rfl
theorem coS(b:Bool)(l:List Nd)(root:Int)(K:List It→St→Prop)(R:SV→List HO→Prop):W (xwp Tryz.prog X K13 [(172,[]),(176,[]),(179,[]),(187,[])] 60 (qO Tryz.f122 [([0,1,0,1,1,1,1,0,0,1,0,0,1,0,1,1,1,1,1,1],3)] [⟨[0,1,0,1,1,1,1,1,1],[9,7,8,5],[(8,3,1)]⟩]) [] [.at []] ⟨qQ 0 [.x 0 [],.v (.int .i64 root)],[.ext b (.s false 7 l.length (cN l))]⟩ K R)=W (∃(l_1:List Nd),List.length l=List.length l_1∧IsC l.length 7 (cN l) (cN l_1)∧List.length l_1≤4398046511104∧bif zV 0 l_1 then bif decide (root<(0:Int)) then R (.v (Value.slice none 0 0)) [] else bif decide ((↑l.length:Int)≤root) then R (.v (Value.slice none 0 0)) [] else(∀ M:Mem,(0:Int)≤(↑l.length:Int)∧(↑l.length:Int)≤(↑l.length:Int)∧(1:Int)*(↑l.length:Int)≤(281474976710656:Int)∧(↑l.length:Int)≤(9223372036854775807:Int))∧(∀ M:Mem,(0:Int)≤root∧root<(↑l.length:Int))∧(∀ M:Mem,Int.toNat root<List.length l)∧K [.at [0,1,0,1,1,1,1,1,1],.blk 0,.at [1,1,1,1,1,1,1]] (St.mk [(9,.v (qA root)),(7,.o 0),(8,.o 1),(5,.o 2)] [.rowc 4 1 l.length (.upd (Ct.zero [Value.bool false]) (Int.toNat root) 0 [.v (.bool true)]),.rowc 3 1 0 (.lit 1 []),.rowc 190 1 l.length (.fn (cS l_1))]) else R (.v (Value.slice none 0 0)) []):=by kernel_rfl
theorem qSa(all:List Nd)(ho:zV 0 all=true)(hb:all.length≤2513169434916)(Q:SV→List HO→Prop)(res:List Int)(hq:Q (.o 0) [.rowc 3 1 res.reverse.length (.fn (cI res.reverse))]):
  ∀(k:Nat) (w:List Bool) (out:List Int),k≤all.length→w.length=all.length→out.length+k≤all.length→qGp all k w out=res →
  FOk Tryz.prog Tryz.f122 Q (.rnd [0,0,1,0,1,1,1,1,1,1] (k+1)::[.blk 0,.at [1,1,1,1,1,1,1]]) ⟨[(9,.v (.int .i64 ((k:Int)-1))),(7,.o 0),(8,.o 1),(5,.o 2)],[.rowc 4 1 all.length (.fn (cB w)),.rowc 3 1 out.length (.fn (cI out)),.rowc 190 1 all.length (.fn (cS all))]⟩
 | 0,w,out,hk,hw,hl,he=>by
  rw[show((0:Nat):Int)-1 = -1 by omega]
  refine FOk.rnd (qC hm 60 ((coE all w out all.length 0 out.length 0 _ _).mpr ⟨?_⟩))
  rw[qGp] at he
  subst he
  exact⟨out,rfl,IsC.refl _ _ _,by omega,by rw[List.length_reverse] at hq; exact hq⟩
 | k+1,w,out,hk,hw,hl,he=>by
  have hlt:k<all.length:=by omega
  have hop:=qCp all 0 ho _ (qDw hlt)
  have hu:=qMq (qDb ho k (gN all k) (by rw[gN,List.getD_eq_getElem?_getD,List.getElem?_eq_getElem hlt]; rfl))
  rw[show((k+1:Nat):Int)-1=(k:Int) by omega]
  have no:gB w k=false→FOk Tryz.prog Tryz.f122 Q (.rnd [0,0,1,0,1,1,1,1,1,1] (k+1)::[.blk 0,.at [1,1,1,1,1,1,1]]) ⟨[(9,.v (.int .i64 (IntKind.wrap .i64 ((k:Int)-1)))),(7,.o 0),(8,.o 1),(5,.o 2)],[.rowc 4 1 all.length (.fn (cB w)),.rowc 3 1 out.length (.fn (cI out)),.rowc 190 1 all.length (.fn (cS all))]⟩:=fun h=>by
   rw[qBs _ (by omega)]
   exact qSa all ho hb Q res hq k w out (by omega) hw (by omega) (by rw[← he,zJz out h])
  have yes:∀ c:Ct,gB w k=true→IsC all.length 1 c.at (Ct.fn (cB ((xZ (gN all k)).foldl (fun w j=>w.set j.toNat true) w))).at→FOk Tryz.prog Tryz.f122 Q (.rnd [0,0,1,0,1,1,1,1,1,1] (k+1)::[.blk 0,.at [1,1,1,1,1,1,1]]) ⟨[(9,.v (.int .i64 (IntKind.wrap .i64 ((k:Int)-1)))),(7,.o 0),(8,.o 1),(5,.o 2)],[.rowc 4 1 all.length c,.rowc 3 1 (out.length+1) (.app out.length (.fn (cI out)) (.lit 1 [.v (.int .i64 (k:Int))])),.rowc 190 1 all.length (.fn (cS all))]⟩:=fun c h hc=>by
   rw[qBs _ (by omega)]
   have next:=qSa all ho hb Q res hq k (xX all k w) (out++[(k:Int)]) (by omega) (by rw[qPz]; exact hw) (by simp; omega) (by rw[← he,zHg out h])
   rw[List.length_append,List.length_singleton,qSz hlt h] at next
   exact FOk.cv next ⟨⟨rfl,rfl,rfl,hc⟩,⟨rfl,rfl,rfl,qEr (k:Int) rfl⟩,HE.refl _,trivial⟩
  by_cases h:(gN all k).op=1
  ·have us:xZ (gN all k)=_:=(xR _).trans (zKp _ _ (by omega))
   rw[us] at hu yes
   refine FOk.rnd (qC hm 60 ((coc all w out all.length k out.length (k+1) _ _).mpr ⟨?_⟩))
   simp only[qV,forall_const]
   refine And.intro (by omega) (And.intro (by omega) (qJ (fun hg=>?_) (fun hg=>?_)))
   ·repeat' (first | refine And.intro ?_ ?_ | refine qJ (fun _=>?_) (fun _=>?_))
    all_goals first
     | omega
     | exact zAg h
     | exact yes _ hg (IsC.refl _ _ _)
   ·exact no hg
  by_cases h:(gN all k).op=5
  ·have us:xZ (gN all k)=_:=(xR _).trans (zPi _ _ (by omega))
   rw[us] at hu yes
   have u1:=hu (gN all k).a (by simp)
   refine FOk.rnd (qC hm 60 ((con all w out all.length k out.length (k+1) _ _).mpr ⟨?_⟩))
   simp only[qV,forall_const]
   refine And.intro (by omega) (And.intro (by omega) (qJ (fun hg=>?_) (fun hg=>?_)))
   ·repeat' (first | refine And.intro ?_ ?_ | refine qJ (fun _=>?_) (fun _=>?_))
    all_goals first
     | omega
     | exact zAe h
     | exact yes _ hg (qFz true hw (by omega))
   ·exact no hg
  by_cases h:(gN all k).op=6
  ·have us:xZ (gN all k)=_:=(xR _).trans (zLg _ _ (by omega))
   rw[us] at hu yes
   have u1:=hu (gN all k).a (by simp)
   have u2:=hu (gN all k).b (by simp)
   refine FOk.rnd (qC hm 60 ((coa all w out all.length k out.length (k+1) _ _).mpr ⟨?_⟩))
   simp only[qV,forall_const]
   refine And.intro (by omega) (And.intro (by omega) (qJ (fun hg=>?_) (fun hg=>?_)))
   ·repeat' (first | refine And.intro ?_ ?_ | refine qJ (fun _=>?_) (fun _=>?_))
    all_goals first
     | omega
     | exact qYk h
     | exact yes _ hg (qZc hw (by omega) (by omega))
   ·exact no hg
  by_cases h:(gN all k).op=7
  ·have us:xZ (gN all k)=_:=(xR _).trans (zLg _ _ (by omega))
   rw[us] at hu yes
   have u1:=hu (gN all k).a (by simp)
   have u2:=hu (gN all k).b (by simp)
   refine FOk.rnd (qC hm 60 ((com all w out all.length k out.length (k+1) _ _).mpr ⟨?_⟩))
   simp only[qV,forall_const]
   refine And.intro (by omega) (And.intro (by omega) (qJ (fun hg=>?_) (fun hg=>?_)))
   ·repeat' (first | refine And.intro ?_ ?_ | refine qJ (fun _=>?_) (fun _=>?_))
    all_goals first
     | omega
     | exact zAa h
     | exact yes _ hg (qZc hw (by omega) (by omega))
   ·exact no hg
  by_cases h:(gN all k).op=8
  ·have us:xZ (gN all k)=_:=(xR _).trans (zPi _ _ (by omega))
   rw[us] at hu yes
   have u1:=hu (gN all k).a (by simp)
   refine FOk.rnd (qC hm 60 ((cos all w out all.length k out.length (k+1) _ _).mpr ⟨?_⟩))
   simp only[qV,forall_const]
   refine And.intro (by omega) (And.intro (by omega) (qJ (fun hg=>?_) (fun hg=>?_)))
   ·repeat' (first | refine And.intro ?_ ?_ | refine qJ (fun _=>?_) (fun _=>?_))
    all_goals first
     | omega
     | exact qYx h
     | exact yes _ hg (qFz true hw (by omega))
   ·exact no hg
  by_cases h:2≤(gN all k).op∧(gN all k).op≤4
  ·have us:xZ (gN all k)=_:=(xR _).trans (zKp _ _ (by omega))
   rw[us] at hu yes
   refine FOk.rnd (qC hm 60 ((coq all w out all.length k out.length (k+1) _ _).mpr ⟨?_⟩))
   simp only[qV,forall_const]
   refine And.intro (by omega) (And.intro (by omega) (qJ (fun hg=>?_) (fun hg=>?_)))
   ·repeat' (first | refine And.intro ?_ ?_ | refine qJ (fun _=>?_) (fun _=>?_))
    all_goals first
     | omega
     | exact qPa h
     | exact yes _ hg (IsC.refl _ _ _)
   ·exact no hg
  omega
theorem bCo:Tryz.f122.body.isSome=true:=by kernel_rfl
theorem nCo(r:Int):Nat.ble [SV.x 0 [],.v (.int .i64 r)].length Tryz.f122.ntmps=true:=by kernel_rfl
theorem zHr(b:Bool)(all:List Nd)(root:Int)(hb:all.length≤2513169434916)(Q:SV→List HO→Prop)(hq1:(¬ zV 0 all=true∨root<0∨(all.length:Int)≤root)→Q (.v (.slice none 0 0)) [])(hq:zV 0 all=true→0≤root∧root<(all.length:Int)→Q (.o 0) [.rowc 3 1 (zL all root).length (.fn (cI (zL all root)))]):qI Tryz.prog 122 [.x 0 [],.v (.int .i64 root)] [.ext b (.s false 7 all.length (cN all))] Q:=by
 refine qL Tryz.func122 bCo ?_ ?_
 ·exact nCo root
 refine qC hm 60 ((coS b all root _ _).mpr ⟨?_⟩)
 simp only[qD,forall_const]
 refine⟨all,rfl,IsC.refl _ _ _,by omega,qJ (fun ho=>?_) (fun ho=>?_)⟩
 ·refine qG (fun h=>hq1 (.inr (.inl h))) (fun h0=>qG (fun h=>hq1 (.inr (.inr h))) (fun h1=>?_))
  refine And.intro (by omega) (And.intro (by omega) (And.intro (by omega) ?_))
  have hc:=hq ho ⟨by omega,by omega⟩
  rw[zCv ho root (by omega) (by omega)] at hc
  have lp:=qSa all ho hb Q _ hc (root.toNat+1) ((List.replicate all.length false).set root.toNat true) [] (by omega) (by simp) (by simp; omega) rfl
  rw[show((root.toNat+1:Nat):Int)-1=root by omega] at lp
  refine FOk.loop (root.toNat+1+1) (by kernel_rfl) (FOk.cv lp ⟨⟨rfl,rfl,rfl,?_⟩,⟨rfl,rfl,rfl,fun k hk=>by simp at hk⟩,HE.refl _,trivial⟩)
  exact IsC.trans (qFh (qYo all.length) root.toNat 0 [.v (.bool true)]) (qFz true (by simp) (by omega))
 ·exact hq1 (.inl (by rw[ho]; simp))
end Go.Proofs.YtlmjdcbhpffanaaGreat
/- An empty answer told as a row; the cone as a contract. -/
namespace Go.Sx
open Go.RowKit
theorem qI.nil{P:Program}{m:Nat}{f:FuncId}{args:List SV}{h:List HO}{Q:SV→List HO→Prop}(T:TypeId)(sz:Nat)(k:zS P m f args h fun r h'=>Q r h'∨(r=.v (.slice none 0 0)∧h'=[]∧Q (.o 0) [.rowc T sz 0 (.lit 1 [])])):zS P m f args h Q:=by
 intro F hF w0 e hm0 S hw
 refine(k F hF w0 e hm0 S hw).mono fun E w' hE=>?_
 obtain⟨e',r,h',hq,h2,h3,h4⟩:=hE
 rcases hq with hq | ⟨rfl,rfl,hq⟩
 ·exact⟨e',r,h',hq,h2,h3,h4⟩
 ·refine⟨e'.setR 0 (.slice none 0 0),.o 0,_,hq,Nat.zero_lt_one,?_,by rw[h4]; simp [den,Env.setR]⟩
  exact h3.newRowc hF (w':=w') T sz 0 _ (.slice none 0 0) (fun _=>⟨[],World.ownsRow_nil w' 0 T sz,fun u hu=>(by cases hu),fun k hk=>by omega⟩) (fun b hb=>by cases hb) ⟨rfl,rfl,rfl,Nat.le_refl _,fun _ _ _=>rfl⟩
end Go.Sx
namespace Go.Pl
theorem qSp{l:List Nd}{root:Int}(h:¬ zV 0 l=true∨root<0∨(l.length:Int)≤root):zL l root=[]:=by
 rw[zL,if_neg (fun hh=>h.elim (fun h=>h hh.1) (fun h=>by have:=hh.2; omega))]
end Go.Pl
namespace Go.Proofs.YtlmjdcbhpffanaaGreat
open Go.Sx Go.Pl
set_option linter.unusedVariables false
noncomputable def gCo:List SV→List HO→Option ((SV→List HO→Prop)→Prop)
 | [.x 0 [],.v (.int .i64 root)],[.ext _ (.s false 7 n c)]=>some fun Q=>∃ l:List Nd,n=l.length∧IsC n 7 c (cN l)∧l.length≤2513169434916∧Q (.o 0) [.rowc 3 1 (zL l root).length (.fn (cI (zL l root)))]
 | _,_=>none
theorem zKc(args:List SV)(h:List HO)(tr:(SV→List HO→Prop)→Prop)(Q:SV→List HO→Prop)(hc:gCo args h=some tr)(ht:tr Q):qI Tryz.prog 122 args h Q:=by
 unfold gCo at hc
 split at hc
 ·rename_i root b n c
  simp only[sI] at hc
  subst hc
  obtain⟨l,rfl,he,hb,hq⟩:=ht
  refine qI.mono (qI.eqv (r0:=.o 0) (h0:=[.rowc 3 1 (zL l root).length (.fn (cI (zL l root)))]) ?_) (fun r h' hh=>by rw[hh.1,hh.2]; exact hq)
  refine qI.ac (qI.nil 3 1 (zHr b l root hb _ (fun hbad=>?_) (fun h1 h2=>.inl ⟨rfl,HEs.refl _⟩))) ⟨⟨rfl,rfl,rfl,rfl,he⟩,trivial⟩
  rw[qSp hbad]
  exact .inr ⟨rfl,rfl,rfl,⟨rfl,rfl,rfl,fun k hk=>by simp at hk⟩,trivial⟩
 ·cases hc
noncomputable def K15:Con Tryz.prog:=K13.add 122 gCo zKc
end Go.Proofs.YtlmjdcbhpffanaaGreat
/- The document's cone. -/
namespace Go.Pl
open Go.Sx
theorem zIf{l:List Int}{k:Nat}(h:k<l.length):l.drop k=gI l k::l.drop (k+1):=by
 rw[List.drop_eq_getElem_cons h,gI,List.getD_eq_getElem?_getD,List.getElem?_eq_getElem h]; rfl
theorem qAt{l:List Int}{k:Nat}(h:k<l.length):gI l k∈l:=by
 rw[gI,List.getD_eq_getElem?_getD,List.getElem?_eq_getElem h]; exact List.getElem_mem h
theorem zJt(us:List Int)(_:us=[]):IsC 0 1 (Ct.lit 1 []).at (Ct.fn (cI us)).at:=fun k hk=>by omega
theorem zUc(a:Int):IsC 1 1 (Ct.lit 1 [.v (.int .i64 a)]).at (Ct.fn (cI [a])).at:=fun k hk j hj=>by
 have h1:k=0:=by omega
 have h2:j=0:=by omega
 subst h1 h2; rfl
theorem zYp(a b:Int):IsC 2 1 (Ct.lit 1 [.v (.int .i64 a),.v (.int .i64 b)]).at (Ct.fn (cI [a,b])).at:=fun k hk j hj=>by
 have h2:j=0:=by omega
 subst h2
 have h1:k=0∨k=1:=by omega
 rcases h1 with rfl | rfl <;> rfl
def zEt(us:List Int)(w:List Bool):List Bool:=us.foldl (fun w j=>w.set j.toNat true) w
theorem zCo{l:List Nd}{k:Nat}{w:List Bool}(hk:k<l.length):xX l k w=if gB w k=true then zEt (xZ (gN l k)) w else w:=by
 by_cases h:gB w k=true
 ·rw[if_pos h,qSz hk h]; rfl
 ·rw[if_neg h,xX,if_neg (show ¬ w.getD k false=true from h)]
end Go.Pl
namespace Go.Proofs.YtlmjdcbhpffanaaGreat
open Go.Sx Go.Pl
set_option linter.unusedVariables false
set_option maxRecDepth 100000
theorem kcS(b:Bool)(l:List Nd)(root:Int)(K:List It→St→Prop)(R:SV→List HO→Prop):W (xwp Tryz.prog X K15 [(136,[])] 60 (qO Tryz.f128 [] [⟨[0,1,0,1,1,1,1,1],[7,6,5,1,0],[]⟩,⟨[0,1,1,0,0,1,0,0,1,0,1,1,1,1,1],[9,8,7,6,5,1,0],[(8,3,1)]⟩,⟨[0,1,0,1,1,1,1,1,1],[10,6,5,1],[]⟩]) [] [.at []] ⟨qQ 0 [.x 0 [],.v (.int .i64 root)],[.ext b (.s false 7 l.length (cN l))]⟩ K R)=W (∃(l_1:List Nd),List.length l=List.length l_1∧IsC l.length 7 (cN l) (cN l_1)∧List.length l_1≤4000000000000∧bif !zV 0 l_1 then R (.o 0) [.rowc 3 1 0 (.lit 1 [])] else bif decide (root<(0:Int)) then R (.o 0) [.rowc 3 1 0 (.lit 1 [])] else bif decide ((↑l.length:Int)≤root) then R (.o 0) [.rowc 3 1 0 (.lit 1 [])] else(∀ M:Mem,(0:Int)≤(↑l.length:Int)∧(↑l.length:Int)≤(↑l.length:Int)∧(1:Int)*(↑l.length:Int)≤(281474976710656:Int)∧(↑l.length:Int)≤(9223372036854775807:Int))∧(∀ M:Mem,(0:Int)≤root∧root<(↑l.length:Int))∧(∀ M:Mem,Int.toNat root<List.length l)∧K [.at [0,1,0,1,1,1,1,1],.blk 0,.at [1,1,1,1,1,1]] (St.mk [(7,.v (qA root)),(6,.o 0),(5,.o 1),(1,.v (qA root)),(0,.x 2 [])] [.rowc 4 1 l.length (.upd (Ct.zero [Value.bool false]) (Int.toNat root) 0 [.v (.bool true)]),.rowc 3 1 0 (.lit 1 []),.ext b (.s false 7 l.length (cN l))])):=by kernel_rfl
theorem kc1(b:Bool)(l:List Nd)(w:List Bool)(root:Int)(n k M:Nat)(K:List It→St→Prop)(R:SV→List HO→Prop):W (xwp Tryz.prog X K15 [(136,[])] 60 (qO Tryz.f128 [] [⟨[0,1,0,1,1,1,1,1],[7,6,5,1,0],[]⟩,⟨[0,1,1,0,0,1,0,0,1,0,1,1,1,1,1],[9,8,7,6,5,1,0],[(8,3,1)]⟩,⟨[0,1,0,1,1,1,1,1,1],[10,6,5,1],[]⟩]) [] (.at [0,0,1,0,1,1,1,1,1]::.rnd [0,0,1,0,1,1,1,1,1] M::[.blk 0,.at [1,1,1,1,1,1]]) ⟨[(7,.v (.int .i64 (k:Int))),(6,.o 0),(5,.o 1),(1,.v (.int .i64 root)),(0,.x 2 [])],[.rowc 4 1 n (.fn (cB w)),.rowc 3 1 0 (.lit 1 []),.ext b (.s false 7 n (cN l))]⟩ K R)=W ((∀ M:Mem,(0:Int)≤(↑k:Int)∧(↑k:Int)<(↑n:Int))∧(∀ M:Mem,k<n)∧bif(gN l k).1==(5:Int) then K [.at [0,1,1,0,0,1,0,0,1,0,1,1,1,1,1],.blk 2,.blk 1,.at [1,1,0,0,1,0,1,1,1,1,1],.rnd [0,0,1,0,1,1,1,1,1] M,.blk 0,.at [1,1,1,1,1,1]] (St.mk [(9,.v (qA 0)),(8,.o 0),(7,.v (qA (↑k:Int))),(6,.o 1),(5,.o 2),(1,.v (qA root)),(0,.x 3 [])] [.rowc 3 1 1 (.lit 1 [.v (qA (gN l k).2)]),.rowc 4 1 n (.fn (cB w)),.rowc 3 1 0 (.lit 1 []),.ext b (.s false 7 n (cN l))]) else bif(gN l k).1==(8:Int) then K [.at [0,1,1,0,0,1,0,0,1,0,1,1,1,1,1],.blk 2,.blk 1,.at [1,1,0,0,1,0,1,1,1,1,1],.rnd [0,0,1,0,1,1,1,1,1] M,.blk 0,.at [1,1,1,1,1,1]] (St.mk [(9,.v (qA 0)),(8,.o 0),(7,.v (qA (↑k:Int))),(6,.o 1),(5,.o 2),(1,.v (qA root)),(0,.x 3 [])] [.rowc 3 1 1 (.lit 1 [.v (qA (gN l k).2)]),.rowc 4 1 n (.fn (cB w)),.rowc 3 1 0 (.lit 1 []),.ext b (.s false 7 n (cN l))]) else bif(gN l k).1==(6:Int) then K [.at [0,1,1,0,0,1,0,0,1,0,1,1,1,1,1],.blk 2,.blk 1,.at [1,1,0,0,1,0,1,1,1,1,1],.rnd [0,0,1,0,1,1,1,1,1] M,.blk 0,.at [1,1,1,1,1,1]] (St.mk [(9,.v (qA 0)),(8,.o 0),(7,.v (qA (↑k:Int))),(6,.o 1),(5,.o 2),(1,.v (qA root)),(0,.x 3 [])] [.rowc 3 1 2 (.lit 1 [.v (qA (gN l k).2),.v (qA (gN l k).3)]),.rowc 4 1 n (.fn (cB w)),.rowc 3 1 0 (.lit 1 []),.ext b (.s false 7 n (cN l))]) else bif(gN l k).1==(7:Int) then K [.at [0,1,1,0,0,1,0,0,1,0,1,1,1,1,1],.blk 2,.blk 1,.at [1,1,0,0,1,0,1,1,1,1,1],.rnd [0,0,1,0,1,1,1,1,1] M,.blk 0,.at [1,1,1,1,1,1]] (St.mk [(9,.v (qA 0)),(8,.o 0),(7,.v (qA (↑k:Int))),(6,.o 1),(5,.o 2),(1,.v (qA root)),(0,.x 3 [])] [.rowc 3 1 2 (.lit 1 [.v (qA (gN l k).2),.v (qA (gN l k).3)]),.rowc 4 1 n (.fn (cB w)),.rowc 3 1 0 (.lit 1 []),.ext b (.s false 7 n (cN l))]) else K [.at [0,1,1,0,0,1,0,0,1,0,1,1,1,1,1],.blk 2,.blk 1,.at [1,1,0,0,1,0,1,1,1,1,1],.rnd [0,0,1,0,1,1,1,1,1] M,.blk 0,.at [1,1,1,1,1,1]] (St.mk [(9,.v (qA 0)),(8,.o 0),(7,.v (qA (↑k:Int))),(6,.o 1),(5,.o 2),(1,.v (qA root)),(0,.x 3 [])] [.rowc 3 1 0 (.lit 1 []),.rowc 4 1 n (.fn (cB w)),.rowc 3 1 0 (.lit 1 []),.ext b (.s false 7 n (cN l))])):=by kernel_rfl
theorem kc2(b:Bool)(l:List Nd)(w:List Bool)(us:List Int)(root:Int)(n nu k j M1 M:Nat)(K:List It→St→Prop)(R:SV→List HO→Prop):W (xwp Tryz.prog X K15 [(136,[])] 60 (qO Tryz.f128 [] [⟨[0,1,0,1,1,1,1,1],[7,6,5,1,0],[]⟩,⟨[0,1,1,0,0,1,0,0,1,0,1,1,1,1,1],[9,8,7,6,5,1,0],[(8,3,1)]⟩,⟨[0,1,0,1,1,1,1,1,1],[10,6,5,1],[]⟩]) [] (.at [0,0,1,1,0,0,1,0,0,1,0,1,1,1,1,1]::.rnd [0,0,1,1,0,0,1,0,0,1,0,1,1,1,1,1] M::[.blk 2,.blk 1,.at [1,1,0,0,1,0,1,1,1,1,1],.rnd [0,0,1,0,1,1,1,1,1] M1,.blk 0,.at [1,1,1,1,1,1]]) ⟨[(9,.v (.int .i64 (j:Int))),(8,.o 0),(7,.v (.int .i64 (k:Int))),(6,.o 1),(5,.o 2),(1,.v (.int .i64 root)),(0,.x 3 [])],[.rowc 3 1 nu (.fn (cI us)),.rowc 4 1 n (.fn (cB w)),.rowc 3 1 0 (.lit 1 []),.ext b (.s false 7 n (cN l))]⟩ K R)=W (bif decide ((↑j:Int)<(↑nu:Int)) then(∀ M:Mem,(0:Int)≤(↑k:Int)∧(↑k:Int)<(↑n:Int))∧(∀ M:Mem,k<n)∧bif gB w k then(∀ M:Mem,(0:Int)≤(↑j:Int)∧(↑j:Int)<(↑nu:Int))∧(∀ M:Mem,j<nu)∧(∀ M:Mem,(0:Int)≤gI us j∧gI us j<(↑n:Int))∧(∀ M:Mem,Int.toNat (gI us j)<n)∧K [.rnd [0,0,1,1,0,0,1,0,0,1,0,1,1,1,1,1] M,.blk 2,.blk 1,.at [1,1,0,0,1,0,1,1,1,1,1],.rnd [0,0,1,0,1,1,1,1,1] M1,.blk 0,.at [1,1,1,1,1,1]] (St.mk [(9,.v (qA (IntKind.wrap .i64 ((↑j:Int)+(1:Int))))),(8,.o 0),(7,.v (qA (↑k:Int))),(6,.o 1),(5,.o 2),(1,.v (qA root)),(0,.x 3 [])] [.rowc 3 1 nu (.fn (cI us)),.rowc 4 1 n (.upd (.fn (cB w)) (Int.toNat (gI us j)) 0 [.v (.bool true)]),.rowc 3 1 0 (.lit 1 []),.ext b (.s false 7 n (cN l))]) else K [.rnd [0,0,1,0,1,1,1,1,1] M1,.blk 0,.at [1,1,1,1,1,1]] (St.mk [(7,.v (qA (IntKind.wrap .i64 ((↑k:Int)-(1:Int))))),(6,.o 0),(5,.o 1),(1,.v (qA root)),(0,.x 2 [])] [.rowc 4 1 n (.fn (cB w)),.rowc 3 1 0 (.lit 1 []),.ext b (.s false 7 n (cN l))]) else K [.rnd [0,0,1,0,1,1,1,1,1] M1,.blk 0,.at [1,1,1,1,1,1]] (St.mk [(7,.v (qA (IntKind.wrap .i64 ((↑k:Int)-(1:Int))))),(6,.o 0),(5,.o 1),(1,.v (qA root)),(0,.x 2 [])] [.rowc 4 1 n (.fn (cB w)),.rowc 3 1 0 (.lit 1 []),.ext b (.s false 7 n (cN l))])):=by kernel_rfl
theorem kcE(b:Bool)(l:List Nd)(w:List Bool)(root:Int)(n M:Nat)(K:List It→St→Prop)(R:SV→List HO→Prop):W (xwp Tryz.prog X K15 [(136,[])] 60 (qO Tryz.f128 [] [⟨[0,1,0,1,1,1,1,1],[7,6,5,1,0],[]⟩,⟨[0,1,1,0,0,1,0,0,1,0,1,1,1,1,1],[9,8,7,6,5,1,0],[(8,3,1)]⟩,⟨[0,1,0,1,1,1,1,1,1],[10,6,5,1],[]⟩]) [] (.at [0,0,1,0,1,1,1,1,1]::.rnd [0,0,1,0,1,1,1,1,1] M::[.blk 0,.at [1,1,1,1,1,1]]) ⟨[(7,.v (.int .i64 (-1))),(6,.o 0),(5,.o 1),(1,.v (.int .i64 root)),(0,.x 2 [])],[.rowc 4 1 n (.fn (cB w)),.rowc 3 1 0 (.lit 1 []),.ext b (.s false 7 n (cN l))]⟩ K R)=W (K [.at [0,1,0,1,1,1,1,1,1],.blk 4,.at [1,1,1,1,1,1,1]] (St.mk [(10,.v (qA 0)),(6,.o 0),(5,.o 1),(1,.v (qA root))] [.rowc 4 1 n (.fn (cB w)),.rowc 3 1 0 (.lit 1 [])])):=by kernel_rfl
theorem kc3(w:List Bool)(out:List Int)(root n m j M:Nat)(K:List It→St→Prop)(R:SV→List HO→Prop):W (xwp Tryz.prog X K15 [(136,[])] 60 (qO Tryz.f128 [] [⟨[0,1,0,1,1,1,1,1],[7,6,5,1,0],[]⟩,⟨[0,1,1,0,0,1,0,0,1,0,1,1,1,1,1],[9,8,7,6,5,1,0],[(8,3,1)]⟩,⟨[0,1,0,1,1,1,1,1,1],[10,6,5,1],[]⟩]) [] (.at [0,0,1,0,1,1,1,1,1,1]::.rnd [0,0,1,0,1,1,1,1,1,1] M::[.blk 4,.at [1,1,1,1,1,1,1]]) ⟨[(10,.v (.int .i64 (j:Int))),(6,.o 0),(5,.o 1),(1,.v (.int .i64 (root:Int)))],[.rowc 4 1 n (.fn (cB w)),.rowc 3 1 m (.fn (cI out))]⟩ K R)=W (bif decide ((↑j:Int)≤(↑root:Int)) then(∀ M:Mem,(0:Int)≤(↑j:Int)∧(↑j:Int)<(↑n:Int))∧(∀ M:Mem,j<n)∧bif gB w j then(∀ M:Mem,(m+1)*8≤140737488355328∧m+1≤140737488355328)∧K [.rnd [0,0,1,0,1,1,1,1,1,1] M,.blk 4,.at [1,1,1,1,1,1,1]] (St.mk [(10,.v (qA (IntKind.wrap .i64 ((↑j:Int)+(1:Int))))),(6,.o 0),(5,.o 1),(1,.v (qA (↑root:Int)))] [.rowc 4 1 n (.fn (cB w)),.rowc 3 1 (m+1) (.app m (.fn (cI out)) (.lit 1 [.v (qA (↑j:Int))]))]) else K [.rnd [0,0,1,0,1,1,1,1,1,1] M,.blk 4,.at [1,1,1,1,1,1,1]] (St.mk [(10,.v (qA (IntKind.wrap .i64 ((↑j:Int)+(1:Int))))),(6,.o 0),(5,.o 1),(1,.v (qA (↑root:Int)))] [.rowc 4 1 n (.fn (cB w)),.rowc 3 1 m (.fn (cI out))]) else R (.o 0) [.rowc 3 1 m (.fn (cI out))]):=by kernel_rfl
theorem qMo(w:List Bool)(n root:Nat)(hr:root<n)(hb:n≤4000000000000)(Q:SV→List HO→Prop)(res:List Int)(hq:Q (.o 0) [.rowc 3 1 res.length (.fn (cI res))]):
  ∀(d j:Nat) (out:List Int),j+d=root+1→out.length≤j→qNo w d j out=res →
  FOk Tryz.prog Tryz.f128 Q (.rnd [0,0,1,0,1,1,1,1,1,1] (d+1)::[.blk 4,.at [1,1,1,1,1,1,1]]) ⟨[(10,.v (.int .i64 (j:Int))),(6,.o 0),(5,.o 1),(1,.v (.int .i64 (root:Int)))],[.rowc 4 1 n (.fn (cB w)),.rowc 3 1 out.length (.fn (cI out))]⟩
 | 0,j,out,hd,hl,he=>by
  refine FOk.rnd (qC hm 60 ((kc3 w out root n out.length j 0 _ _).mpr ⟨?_⟩))
  simp only[qD]
  rw[if_neg (by omega)]
  rw[qNo] at he
  subst he
  exact hq
 | d+1,j,out,hd,hl,he=>by
  refine FOk.rnd (qC hm 60 ((kc3 w out root n out.length j (d+1) _ _).mpr ⟨?_⟩))
  simp only[qD,forall_const]
  rw[if_pos (by omega),qK _ (by omega)]
  refine And.intro (by omega) (And.intro (by omega) (qJ (fun hg=>And.intro (by omega) ?_) (fun hg=>?_)))
  ·have next:=qMo w n root hr hb Q res hq d (j+1) (out++[(j:Int)]) (by omega) (by simp; omega) (by rw[← he,qNo,if_pos (show w.getD j false=true from hg)])
   rw[List.length_append,List.length_singleton] at next
   exact FOk.cv next ⟨HE.refl _,⟨rfl,rfl,rfl,qEr (j:Int) rfl⟩,trivial⟩
  ·exact qMo w n root hr hb Q res hq d (j+1) out (by omega) (by omega) (by rw[← he,qNo,if_neg (by rw[show w.getD j false=false from hg]; exact Bool.false_ne_true)])
theorem qUe(b:Bool)(l:List Nd)(us:List Int)(root:Int)(n k M1:Nat)(hk:k<n)(hb:n≤4000000000000)(hus:us.length≤2)(hu:∀ u∈us,0≤u∧u<(k:Int))(Q:SV→List HO→Prop)(wf:List Bool)(H:FOk Tryz.prog Tryz.f128 Q (.rnd [0,0,1,0,1,1,1,1,1] M1::[.blk 0,.at [1,1,1,1,1,1]]) ⟨[(7,.v (.int .i64 (IntKind.wrap .i64 ((k:Int)-1)))),(6,.o 0),(5,.o 1),(1,.v (.int .i64 root)),(0,.x 2 [])],[.rowc 4 1 n (.fn (cB wf)),.rowc 3 1 0 (.lit 1 []),.ext b (.s false 7 n (cN l))]⟩):
  ∀(d j:Nat) (w:List Bool),j+d=us.length→w.length=n→(if gB w k=true then zEt (us.drop j) w else w)=wf →
  FOk Tryz.prog Tryz.f128 Q (.rnd [0,0,1,1,0,0,1,0,0,1,0,1,1,1,1,1] (d+1)::[.blk 2,.blk 1,.at [1,1,0,0,1,0,1,1,1,1,1],.rnd [0,0,1,0,1,1,1,1,1] M1,.blk 0,.at [1,1,1,1,1,1]]) ⟨[(9,.v (.int .i64 (j:Int))),(8,.o 0),(7,.v (.int .i64 (k:Int))),(6,.o 1),(5,.o 2),(1,.v (.int .i64 root)),(0,.x 3 [])],[.rowc 3 1 us.length (.fn (cI us)),.rowc 4 1 n (.fn (cB w)),.rowc 3 1 0 (.lit 1 []),.ext b (.s false 7 n (cN l))]⟩
 | 0,j,w,hd,hw,he=>by
  refine FOk.rnd (qC hm 60 ((kc2 b l w us root n us.length k j M1 0 _ _).mpr ⟨?_⟩))
  simp only[qD]
  rw[if_neg (by omega)]
  rw[show j=us.length by omega,List.drop_length,zEt,List.foldl_nil,ite_self] at he
  subst he
  exact H
 | d+1,j,w,hd,hw,he=>by
  have hj:j<us.length:=by omega
  have h1:=hu _ (qAt hj)
  refine FOk.rnd (qC hm 60 ((kc2 b l w us root n us.length k j M1 (d+1) _ _).mpr ⟨?_⟩))
  simp only[qD,forall_const]
  rw[if_pos (by omega),qK _ (by omega)]
  refine And.intro (by omega) (And.intro (by omega) (qJ (fun hg=>?_) (fun hg=>?_)))
  ·refine And.intro (by omega) (And.intro (by omega) (And.intro (by omega) (And.intro (by omega) ?_)))
   have next:=qUe b l us root n k M1 hk hb hus hu Q wf H d (j+1) (w.set (gI us j).toNat true) (by omega) (by rw[List.length_set]; exact hw) (by
    rw[← he,if_pos hg,if_pos (show gB (w.set (gI us j).toNat true) k=true from zDu w k _ hg),zIf hj]; rfl)
   exact FOk.cv next ⟨HE.refl _,⟨rfl,rfl,rfl,qFz true hw (by omega)⟩,HE.refl _,HE.refl _,trivial⟩
  ·rw[if_neg (by rw[hg]; exact Bool.false_ne_true)] at he
   subst he
   exact H
theorem qVa(b:Bool)(all:List Nd)(root:Nat)(ho:zV 0 all=true)(hr:root<all.length)(hb:all.length≤4000000000000)(Q:SV→List HO→Prop)(wf:List Bool)(res:List Int)(hc:qNo wf (root+1) 0 []=res)(hq:Q (.o 0) [.rowc 3 1 res.length (.fn (cI res))]):
  ∀(k:Nat) (w:List Bool),k≤all.length→w.length=all.length→wT all k w=wf →
  FOk Tryz.prog Tryz.f128 Q (.rnd [0,0,1,0,1,1,1,1,1] (k+1)::[.blk 0,.at [1,1,1,1,1,1]]) ⟨[(7,.v (.int .i64 ((k:Int)-1))),(6,.o 0),(5,.o 1),(1,.v (.int .i64 (root:Int))),(0,.x 2 [])],[.rowc 4 1 all.length (.fn (cB w)),.rowc 3 1 0 (.lit 1 []),.ext b (.s false 7 all.length (cN all))]⟩
 | 0,w,hk,hw,he=>by
  rw[show((0:Nat):Int)-1 = -1 by omega]
  refine FOk.rnd (qC hm 60 ((kcE b all w (root:Int) all.length 0 _ _).mpr ⟨?_⟩))
  rw[wT] at he
  subst he
  exact FOk.loop (root+1+1) (by kernel_rfl) (FOk.cv (qMo w all.length root hr hb Q res hq (root+1) 0 [] (by omega) (Nat.le_refl _) hc) ⟨HE.refl _,⟨rfl,rfl,rfl,zJt _ rfl⟩,trivial⟩)
 | k+1,w,hk,hw,he=>by
  have hlt:k<all.length:=by omega
  have hop:=qCp all 0 ho _ (qDw hlt)
  have hu:=qMq (qDb ho k (gN all k) (by rw[gN,List.getD_eq_getElem?_getD,List.getElem?_eq_getElem hlt]; rfl))
  have next:=qVa b all root ho hr hb Q wf res hc hq k (xX all k w) (by omega) (by rw[qPz]; exact hw) (by rw[← he,wT])
  rw[show((k+1:Nat):Int)-1=(k:Int) by omega]
  rw[← qBs k (by omega)] at next
  have go:∀(us:List Int) (nu:Nat) (c:Ct),xZ (gN all k)=us→nu=us.length→us.length≤2→IsC us.length 1 c.at (Ct.fn (cI us)).at→FOk Tryz.prog Tryz.f128 Q (.at [0,1,1,0,0,1,0,0,1,0,1,1,1,1,1]::[.blk 2,.blk 1,.at [1,1,0,0,1,0,1,1,1,1,1],.rnd [0,0,1,0,1,1,1,1,1] (k+1),.blk 0,.at [1,1,1,1,1,1]]) ⟨[(9,.v (.int .i64 0)),(8,.o 0),(7,.v (.int .i64 (k:Int))),(6,.o 1),(5,.o 2),(1,.v (.int .i64 (root:Int))),(0,.x 3 [])],[.rowc 3 1 nu c,.rowc 4 1 all.length (.fn (cB w)),.rowc 3 1 0 (.lit 1 []),.ext b (.s false 7 all.length (cN all))]⟩:=fun us nu c h1 h2 h3 h4=>by
   subst h1 h2
   refine FOk.loop ((xZ (gN all k)).length+1) (by kernel_rfl) (FOk.cv (qUe b all (xZ (gN all k)) (root:Int) all.length k (k+1) hlt hb h3 hu Q (xX all k w) next (xZ (gN all k)).length 0 w (by omega) hw (by rw[List.drop_zero,zCo hlt])) ⟨⟨rfl,rfl,rfl,h4⟩,HE.refl _,HE.refl _,HE.refl _,trivial⟩)
  refine FOk.rnd (qC hm 60 ((kc1 b all w (root:Int) all.length k (k+1) _ _).mpr ⟨?_⟩))
  simp only[zC,forall_const]
  refine And.intro (by omega) (And.intro (by omega) ?_)
  repeat' (refine qG (fun _=>?_) (fun _=>?_))
  all_goals first
   | exact go _ _ _ ((xR _).trans (zPi _ _ (by omega))) rfl (by simp) (zUc _)
   | exact go _ _ _ ((xR _).trans (zLg _ _ (by omega))) rfl (by simp) (zYp _ _)
   | exact go _ _ _ ((xR _).trans (zKp _ _ (by omega))) rfl (by simp) (zJt _ rfl)
theorem zXu:Tryz.f128.body.isSome=true:=by kernel_rfl
theorem zWz(r:Int):Nat.ble [SV.x 0 [],.v (.int .i64 r)].length Tryz.f128.ntmps=true:=by kernel_rfl
theorem zDv(b:Bool)(all:List Nd)(root:Int)(hb:all.length≤4000000000000)(Q:SV→List HO→Prop)(hq:Q (.o 0) [.rowc 3 1 (zL all root).length (.fn (cI (zL all root)))]):qI Tryz.prog 128 [.x 0 [],.v (.int .i64 root)] [.ext b (.s false 7 all.length (cN all))] Q:=by
 refine qI.mono (qI.eqv (r0:=.o 0) (h0:=[.rowc 3 1 (zL all root).length (.fn (cI (zL all root)))]) ?_) (fun r h' hh=>by rw[hh.1,hh.2]; exact hq)
 refine qL Tryz.func128 zXu ?_ ?_
 ·exact zWz root
 refine qC hm 60 ((kcS b all root _ _).mpr ⟨?_⟩)
 simp only[qD,qV,forall_const]
 have bad:(¬ zV 0 all=true∨root<0∨(all.length:Int)≤root)→True∧HEs [.rowc 3 1 0 (.lit 1 [])] [.rowc 3 1 (zL all root).length (.fn (cI (zL all root)))]:=fun h=>by
  rw[qSp h]
  exact⟨trivial,⟨rfl,rfl,rfl,zJt _ rfl⟩,trivial⟩
 refine⟨all,rfl,IsC.refl _ _ _,hb,qJ (fun ho=>?_) (fun ho=>?_)⟩
 ·refine qG (fun h=>bad (.inr (.inl h))) (fun h0=>qG (fun h=>bad (.inr (.inr h))) (fun h1=>?_))
  refine And.intro (by omega) (And.intro (by omega) (And.intro (by omega) ?_))
  obtain⟨r,rfl⟩:∃ r:Nat,root=(r:Int):=⟨root.toNat,by omega⟩
  have lp:=qVa b all r ho (by omega) hb (fun r' h'=>r'=.o 0∧HEs h' [.rowc 3 1 (zL all (r:Int)).length (.fn (cI (zL all (r:Int))))]) _ (zL all (r:Int)) (zBo ho r (by omega)).symm ⟨rfl,HEs.refl _⟩ (r+1) ((List.replicate all.length false).set r true) (by omega) (by simp) rfl
  rw[show((r+1:Nat):Int)-1=(r:Int) by omega] at lp
  refine FOk.loop (r+1+1) (by kernel_rfl) (FOk.cv lp ⟨⟨rfl,rfl,rfl,?_⟩,HE.refl _,HE.refl _,trivial⟩)
  exact IsC.trans (qFh (qYo all.length) r 0 [.v (.bool true)]) (qFz true (by simp) (by omega))
 ·exact bad (.inl (by rw[ho]; exact Bool.false_ne_true))
noncomputable def zLz:List SV→List HO→Option ((SV→List HO→Prop)→Prop)
 | [.x 0 [],.v (.int .i64 root)],[.ext _ (.s false 7 n c)]=>some fun Q=>∃ l:List Nd,n=l.length∧IsC n 7 c (cN l)∧l.length≤4000000000000∧Q (.o 0) [.rowc 3 1 (zL l root).length (.fn (cI (zL l root)))]
 | _,_=>none
theorem zFm(args:List SV)(h:List HO)(tr:(SV→List HO→Prop)→Prop)(Q:SV→List HO→Prop)(hc:zLz args h=some tr)(ht:tr Q):qI Tryz.prog 128 args h Q:=by
 unfold zLz at hc
 split at hc
 ·rename_i root b n c
  simp only[sI] at hc
  subst hc
  obtain⟨l,rfl,he,hb,hq⟩:=ht
  exact qI.ac (zDv b l root hb Q hq) ⟨⟨rfl,rfl,rfl,rfl,he⟩,trivial⟩
 ·cases hc
noncomputable def K16:Con Tryz.prog:=K15.add 128 zLz zFm
end Go.Proofs.YtlmjdcbhpffanaaGreat
/- A run of plain numbers: the law's calls whose answers are fixed. -/
namespace Go.Proofs.YtlmjdcbhpffanaaGreat
open Go.Sx Go.Pl
set_option linter.unusedVariables false
set_option maxRecDepth 100000
end Go.Proofs.YtlmjdcbhpffanaaGreat
/- Sums and differences of words. -/
namespace Go.Pl
open Go.Sx
noncomputable abbrev eI(a:Nat):List Int:=[(qF a 0:Int),(qF a 1:Int),(qF a 2:Int),(qF a 3:Int)]
end Go.Pl
namespace Go.Proofs.YtlmjdcbhpffanaaGreat
open Go.Sx Go.Pl
set_option linter.unusedVariables false
set_option maxRecDepth 100000
noncomputable def K18:Con Tryz.prog:=K16
end Go.Proofs.YtlmjdcbhpffanaaGreat
/- A number of two words by a little modulus: bits.Div64. -/
namespace Go.Pl
open Go.Sx
theorem qVk(z:Int):IntKind.wrap .u64 z=z%18446744073709551616:=by
 simp [IntKind.wrap,IntKind.bits,IntKind.signed]
theorem qUu(a:Nat)(ha:a<18446744073709551616):IntKind.wrap .u64 (a:Int)=(a:Int):=by rw[qVk]; omega
end Go.Pl
namespace Go.Proofs.YtlmjdcbhpffanaaGreat
open Go.Sx Go.Pl
set_option linter.unusedVariables false
set_option maxRecDepth 100000
noncomputable def K19:Con Tryz.prog:=K18
end Go.Proofs.YtlmjdcbhpffanaaGreat
/- A number by a little modulus: the field's reduce. -/
namespace Go.Pl
open Go.Sx
theorem qXy(r:Nat)(h:r<18446744073709551616):qF r 0=r∧qF r 1=0∧qF r 2=0∧qF r 3=0:=by
 have:=qZs (a:=r) (b:=0) (c:=0) (d:=0) h (by omega) (by omega) (by omega)
 rw[show nv r 0 0 0=r by simp [nv]] at this
 exact this
end Go.Pl
namespace Go.Proofs.YtlmjdcbhpffanaaGreat
open Go.Sx Go.Pl
set_option linter.unusedVariables false
set_option maxRecDepth 100000
end Go.Proofs.YtlmjdcbhpffanaaGreat
/- The field's reduce, at all four moduli. -/
namespace Go.Pl
open Go.Sx
inductive zHp : List Int → Nat → Prop where
  | p : zHp [16513537, 0, 0, 0, 9, 16513537, 0, 0, 0, 0, 0] 16513537
  | q : zHp [16521217, 0, 0, 0, 11, 16521217, 0, 0, 0, 0, 0] 16521217
  | r : zHp [11037532056220336129, 2469829653914515739, 0, 4611686018427387904, 32, 0, 11037532056220336127, 10122100416058490895, 15551789045973377255, 8617542898466512152, 679271340751763220] 28948022309329048855892746252171976963363056481941560715954676764349967630337
  | t : zHp [10108024940646105089, 2469829653919213789, 0, 4611686018427387904, 32, 0, 10108024940646105087, 18200867980676431887, 7474641938123724515, 9200329640471491984, 679271340771891881] 28948022309329048855892746252171976963363056481941647379679742748393362948097
end Go.Pl
namespace Go.Proofs.YtlmjdcbhpffanaaGreat
open Go.Sx Go.Pl
set_option linter.unusedVariables false
set_option maxRecDepth 100000
noncomputable def K20:Con Tryz.prog:=K19
end Go.Proofs.YtlmjdcbhpffanaaGreat
/- Sums and what is below nought, in the fields. -/
namespace Go.Pl
open Go.Sx
theorem qPy(i:Nat):qF 0 i=0:=by simp [qF,wZ]
end Go.Pl
namespace Go.Proofs.YtlmjdcbhpffanaaGreat
open Go.Sx Go.Pl
set_option linter.unusedVariables false
set_option maxRecDepth 100000
noncomputable def K22:Con Tryz.prog:=K20
end Go.Proofs.YtlmjdcbhpffanaaGreat
/- The fields' sums, what is below nought, the moduli. -/
namespace Go.Pl
open Go.Sx
theorem zVg:0<top:=by simp only[top]; omega
end Go.Pl
namespace Go.Proofs.YtlmjdcbhpffanaaGreat
open Go.Sx Go.Pl
set_option linter.unusedVariables false
set_option maxRecDepth 100000
noncomputable def K23:Con Tryz.prog:=K22
end Go.Proofs.YtlmjdcbhpffanaaGreat
/- The product of two words. -/
namespace Go.Pl
open Go.Sx
end Go.Pl
namespace Go.Proofs.YtlmjdcbhpffanaaGreat
open Go.Sx Go.Pl
set_option linter.unusedVariables false
set_option maxRecDepth 100000
noncomputable def K24:Con Tryz.prog:=K23
end Go.Proofs.YtlmjdcbhpffanaaGreat
/- A number of six words, and a product more. -/
namespace Go.Pl
open Go.Sx
end Go.Pl
namespace Go.Proofs.YtlmjdcbhpffanaaGreat
open Go.Sx Go.Pl
set_option linter.unusedVariables false
set_option maxRecDepth 100000
noncomputable def K25:Con Tryz.prog:=K24
end Go.Proofs.YtlmjdcbhpffanaaGreat
/- Montgomery's product. -/
namespace Go.Pl
open Go.Sx
end Go.Pl
namespace Go.Proofs.YtlmjdcbhpffanaaGreat
open Go.Sx Go.Pl
set_option linter.unusedVariables false
set_option maxRecDepth 100000
noncomputable def K26:Con Tryz.prog:=K25
end Go.Proofs.YtlmjdcbhpffanaaGreat
/- Products in the fields. -/
namespace Go.Pl
open Go.Sx
end Go.Pl
namespace Go.Proofs.YtlmjdcbhpffanaaGreat
open Go.Sx Go.Pl
set_option linter.unusedVariables false
set_option maxRecDepth 100000
noncomputable def K27:Con Tryz.prog:=K26
end Go.Proofs.YtlmjdcbhpffanaaGreat
/- The fields' products, by the sort. -/
namespace Go.Proofs.YtlmjdcbhpffanaaGreat
open Go.Sx Go.Pl
set_option linter.unusedVariables false
set_option maxRecDepth 100000
noncomputable def K28:Con Tryz.prog:=K27
end Go.Proofs.YtlmjdcbhpffanaaGreat
/- The values of nodes. -/
namespace Go.Sx
open Go.RowKit
end Go.Sx
namespace Go.Pl
open Go.Sx
theorem qWi{l:List Nat}(h:∀ v∈l,v<top)(k:Nat):gE l k<top:=by
 unfold gE
 rw[List.getD_eq_getElem?_getD]
 cases hk:l[k]? with
 | none=>exact zVg
 | some v=>exact h v (List.mem_of_getElem? hk)
theorem qQw{l:List Nat}{k:Nat}(z:Nat)(h:l.length=k):IsC (k+1) 4 (Ct.app k (.fn (cE l)) (.lit 4 [.v (.int .u64 (qF z 0:Nat)),.v (.int .u64 (qF z 1:Nat)),.v (.int .u64 (qF z 2:Nat)),.v (.int .u64 (qF z 3:Nat))])).at (Ct.fn (cE (l++[z]))).at:=by
 subst h
 exact xQ (fun(v:Nat) j=>.v (.int .u64 (qF v j:Nat))) 0 4 l z _ (fun j hj=>by
  match j,hj with
  | 0,_=>rfl
  | 1,_=>rfl
  | 2,_=>rfl
  | 3,_=>rfl)
end Go.Pl
namespace Go.Proofs.YtlmjdcbhpffanaaGreat
open Go.Sx Go.Pl
set_option linter.unusedVariables false
set_option maxRecDepth 100000
noncomputable def K29:Con Tryz.prog:=K28
end Go.Proofs.YtlmjdcbhpffanaaGreat
/- Lists of elements: compared, copied. -/
namespace Go.Pl
open Go.Sx
theorem zLj{l l2:List Nat}(h:l.length=l2.length)(e:∀ k,k<l.length→gE l k=gE l2 k):l=l2 :=
 List.ext_getElem h fun k hk hk2=>by have:=e k hk; simpa only[gE,List.getD_eq_getElem?_getD,List.getElem?_eq_getElem hk,List.getElem?_eq_getElem hk2,Option.getD_some] using this
theorem zOb{a b:Nat}(ha:a<top)(hb:b<top)(h:eI a=eI b):a=b:=by
 simp only[eI,List.cons.injEq,and_true] at h
 exact qIz ha hb (by omega) (by omega) (by omega) (by omega)
structure lE (n:Nat) (c:Nat→Nat→qB) (k:List Nat→Prop):Prop where
 h:∃ l:List Nat,n=l.length∧IsC n 4 c (cE l)∧l.length≤4398046511104∧(∀ v∈l,v<top)∧k l
structure lE2 (n n2:Nat) (c c2:Nat→Nat→qB) (k:List Nat→List Nat→Prop):Prop where
 h:∃ l l2:List Nat,n=l.length∧IsC n 4 c (cE l)∧n2=l2.length∧IsC n2 4 c2 (cE l2)∧l.length≤4398046511104∧(∀ v∈l,v<top)∧(∀ v∈l2,v<top)∧k l l2
end Go.Pl
namespace Go.Proofs.YtlmjdcbhpffanaaGreat
open Go.Sx Go.Pl
set_option linter.unusedVariables false
set_option maxRecDepth 100000
theorem seR(b b2:Bool)(l l2:List Nat)(n n2 k M:Nat)(K:List It→St→Prop)(R:SV→List HO→Prop):W (xwp Tryz.prog X K29 [] 60 (qO Tryz.f30 [] [⟨[0,1,0,1,1],[5,4,0,1],[]⟩]) [] (.at [0,0,1,0,1,1]::.rnd [0,0,1,0,1,1] M::[.blk 0,.at [1,1,1]]) ⟨[(5,.v (.int .i64 (k:Int))),(4,.v (.bool false)),(0,.x 0 []),(1,.x 1 [])],[.ext b (.s false 4 n (cE l)),.ext b2 (.s false 4 n2 (cE l2))]⟩ K R)=W (bif decide ((↑k:Int)<(↑n:Int)) then(∀ M:Mem,(0:Int)≤(↑k:Int)∧(↑k:Int)<(↑n:Int))∧(∀ M:Mem,k<n)∧(∀ M:Mem,(0:Int)≤(↑k:Int)∧(↑k:Int)<(↑n2:Int))∧(∀ M:Mem,k<n2)∧bif !decide ((eI (gE l k))=(eI (gE l2 k))) then R (.v (.bool false)) [] else K [.rnd [0,0,1,0,1,1] M,.blk 0,.at [1,1,1]] (St.mk [(5,.v (qA (IntKind.wrap .i64 ((↑k:Int)+(1:Int))))),(4,.v (.bool false)),(0,.x 0 []),(1,.x 1 [])] [.ext b (.s false 4 n (cE l)),.ext b2 (.s false 4 n2 (cE l2))]) else R (.v (.bool true)) []):=by kernel_rfl
theorem seS(b b2:Bool)(l l2:List Nat)(n n2:Nat)(K:List It→St→Prop)(R:SV→List HO→Prop):W (xwp Tryz.prog X K29 [] 60 (qO Tryz.f30 [] [⟨[0,1,0,1,1],[5,4,0,1],[]⟩]) [] [.at []] ⟨qQ 0 [.x 0 [],.x 1 []],[.ext b (.s false 4 n (cE l)),.ext b2 (.s false 4 n2 (cE l2))]⟩ K R)=W (bif !(↑n:Int)==(↑n2:Int) then R (.v (.bool false)) [] else K [.at [0,1,0,1,1],.blk 0,.at [1,1,1]] (St.mk [(5,.v (qA 0)),(4,.v (.bool false)),(0,.x 0 []),(1,.x 1 [])] [.ext b (.s false 4 n (cE l)),.ext b2 (.s false 4 n2 (cE l2))])):=by kernel_rfl
theorem ceS(l:List Nat)(K:List It→St→Prop)(R:SV→List HO→Prop):W (xwp Tryz.prog X K29 [] 60 (qO Tryz.f34 [] []) [] [.at []] ⟨qQ 0 [.x 0 []],[.ext false (.s false 4 l.length (cE l))]⟩ K R)=W ((∀ M:Mem,(0+List.length l)*32≤140737488355328∧0+List.length l≤140737488355328)∧R (.o 0) [.rowc 53 4 (0+List.length l) (.app 0 (.lit 4 []) (.fn (cE l)))]):=by kernel_rfl
theorem qYs(b b2:Bool)(l l2:List Nat)(hl:l.length=l2.length)(hb:l.length≤4398046511104)(Q:SV→List HO→Prop)(hq1:(∀ k,k<l.length→eI (gE l k)=eI (gE l2 k))→Q (.v (.bool true)) [])(hq0:(∃ k,k<l.length∧¬ (eI (gE l k)=eI (gE l2 k)))→Q (.v (.bool false)) []):
  ∀(d k:Nat),k+d=l.length→(∀ k',k'<k→eI (gE l k')=eI (gE l2 k')) →
  FOk Tryz.prog Tryz.f30 Q (.rnd [0,0,1,0,1,1] (d+1)::[.blk 0,.at [1,1,1]]) ⟨[(5,.v (.int .i64 (k:Int))),(4,.v (.bool false)),(0,.x 0 []),(1,.x 1 [])],[.ext b (.s false 4 l.length (cE l)),.ext b2 (.s false 4 l2.length (cE l2))]⟩
 | 0,k,hd,he=>by
  refine FOk.rnd (qC hm 60 ((seR b b2 l l2 l.length l2.length k 0 _ _).mpr ⟨?_⟩))
  simp only[qD]
  rw[if_neg (by omega)]
  exact hq1 fun k' hk'=>he k' (by omega)
 | d+1,k,hd,he=>by
  refine FOk.rnd (qC hm 60 ((seR b b2 l l2 l.length l2.length k (d+1) _ _).mpr ⟨?_⟩))
  simp only[qD,qV,forall_const]
  rw[if_pos (by omega)]
  repeat' (first | refine And.intro (by omega) ?_ | refine qG (fun h=>?_) (fun h=>?_))
  ·rw[qK _ (by omega)]
   refine qYs b b2 l l2 hl hb Q hq1 hq0 d (k+1) (by omega) fun k' hk'=>?_
   by_cases hh:k'=k
   ·rw[hh]; exact h
   ·exact he k' (by omega)
  ·exact hq0 ⟨k,by omega,h⟩
theorem bse:Tryz.f30.body.isSome=true:=by kernel_rfl
theorem nse:Nat.ble [SV.x 0 [],.x 1 []].length Tryz.f30.ntmps=true:=by kernel_rfl
theorem zTe(b b2:Bool)(l l2:List Nat)(hb:l.length≤4398046511104)(Q:SV→List HO→Prop)(hq1:l.length=l2.length→(∀ k,k<l.length→eI (gE l k)=eI (gE l2 k))→Q (.v (.bool true)) [])(hq0:(l.length≠l2.length∨∃ k,k<l.length∧¬ (eI (gE l k)=eI (gE l2 k)))→Q (.v (.bool false)) []):qI Tryz.prog 30 [.x 0 [],.x 1 []] [.ext b (.s false 4 l.length (cE l)),.ext b2 (.s false 4 l2.length (cE l2))] Q:=by
 refine qL Tryz.func30 bse ?_ ?_
 ·exact nse
 refine qC hm 60 ((seS b b2 l l2 l.length l2.length _ _).mpr ⟨?_⟩)
 simp only[qV,zC]
 refine qG (fun h=>?_) (fun h=>hq0 (.inl (by omega)))
 have h':l.length=l2.length:=by omega
 exact FOk.loop (l.length+1) (by kernel_rfl) (qYs b b2 l l2 h' hb Q (hq1 h') (fun hh=>hq0 (.inr hh)) l.length 0 (by omega) fun k' hk'=>by omega)
noncomputable def zPj:List SV→List HO→Option ((SV→List HO→Prop)→Prop)
 | [.x 0 [],.x 1 []],[.ext _ (.s false 4 n c),.ext _ (.s false 4 n2 c2)]=>some fun Q=>lE2 n n2 c c2 fun l l2=>Q (.v (.bool (decide (l=l2)))) []
 | _,_=>none
theorem zFg(args:List SV)(h:List HO)(tr:(SV→List HO→Prop)→Prop)(Q:SV→List HO→Prop)(hc:zPj args h=some tr)(ht:tr Q):qI Tryz.prog 30 args h Q:=by
 unfold zPj at hc
 split at hc
 ·rename_i b n c b2 n2 c2
  simp only[sI] at hc
  subst hc
  obtain⟨l,l2,rfl,he,rfl,he2,hb,hv,hv2,hq⟩:=ht.h
  refine qI.ac (zTe b b2 l l2 hb Q (fun h1 h2=>?_) (fun h1=>?_)) ⟨⟨rfl,rfl,rfl,rfl,he⟩,⟨rfl,rfl,rfl,rfl,he2⟩,trivial⟩
  ·rw[decide_eq_true (zLj h1 fun k hk=>zOb (qWi hv k) (qWi hv2 k) (h2 k hk))] at hq; exact hq
  ·rw[decide_eq_false (fun hh=>by subst hh; exact h1.elim (fun h=>h rfl) (fun⟨_,_,h⟩=>h rfl))] at hq; exact hq
 ·cases hc
theorem bce:Tryz.f34.body.isSome=true:=by kernel_rfl
theorem nce:Nat.ble [SV.x 0 []].length Tryz.f34.ntmps=true:=by kernel_rfl
theorem zIj(all:List Nat)(hb:all.length≤4398046511104)(Q:SV→List HO→Prop)(hq:Q (.o 0) [.rowc 53 4 all.length (.fn (cE all))]):qI Tryz.prog 34 [.x 0 []] [.ext false (.s false 4 all.length (cE all))] Q:=by
 refine qI.mono (qI.eqv (r0:=.o 0) (h0:=[.rowc 53 4 all.length (.fn (cE all))]) ?_) (fun r h' hh=>by rw[hh.1,hh.2]; exact hq)
 refine qL Tryz.func34 bce ?_ ?_
 ·exact nce
 refine qC hm 60 ((ceS all _ _).mpr ⟨?_⟩)
 refine⟨fun _=>by omega,rfl,⟨rfl,rfl,by omega,fun k hk j hj=>?_⟩,trivial⟩
 exact xN _ _ _ (Nat.zero_le _)
noncomputable def qMz:List SV→List HO→Option ((SV→List HO→Prop)→Prop)
 | [.x 0 []],[.ext false (.s false 4 n c)]=>some fun Q=>lE n c fun l=>Q (.o 0) [.rowc 53 4 l.length (.fn (cE l))]
 | _,_=>none
theorem qAy(args:List SV)(h:List HO)(tr:(SV→List HO→Prop)→Prop)(Q:SV→List HO→Prop)(hc:qMz args h=some tr)(ht:tr Q):qI Tryz.prog 34 args h Q:=by
 unfold qMz at hc
 split at hc
 ·rename_i n c
  simp only[sI] at hc
  subst hc
  obtain⟨l,rfl,he,hb,hv,hq⟩:=ht.h
  exact qI.ac (zIj l hb Q hq) ⟨⟨rfl,rfl,rfl,rfl,he⟩,trivial⟩
 ·cases hc
noncomputable def K30:Con Tryz.prog:=(K29.add 30 zPj zFg).add 34 qMz qAy
end Go.Proofs.YtlmjdcbhpffanaaGreat
/- The statements' first line. -/
namespace Go.Pl
open Go.Sx
theorem qDn(n:Nat)(h:n<18446744073709551616):qF n 0=n∧qF n 1=0∧qF n 2=0∧qF n 3=0:=qXy n h
end Go.Pl
namespace Go.Proofs.YtlmjdcbhpffanaaGreat
open Go.Sx Go.Pl
set_option linter.unusedVariables false
set_option maxRecDepth 100000
noncomputable def K31:Con Tryz.prog:=K30
end Go.Proofs.YtlmjdcbhpffanaaGreat
/- Arguments' types: how their cells are told. -/
namespace Go.Pl
open Go.Sx
structure Cir where
 fx:Int
 ad:Int
 ins:Int
 nodes:List Nd
 gates:List Int
 looks:List (List Int×List Int)
 eqs:List (Int×Int)
noncomputable def zFn(c:Cir)(j:Nat):qB :=
 match j with
 | 0=>.v (.int .i64 c.fx)
 | 1=>.v (.int .i64 c.ad)
 | 2=>.v (.int .i64 c.ins)
 | 3=>.s false 7 c.nodes.length (cN c.nodes)
 | 4=>.s false 1 c.gates.length (cI c.gates)
 | 5=>.s false 2 c.looks.length (cL c.looks)
 | 6=>.s false 2 c.eqs.length (cK c.eqs)
 | _=>.v undef
def i64(z:Int):Prop := -9223372036854775808≤z∧z<9223372036854775808
structure Cir.ok (c:Cir):Prop where
 f:i64 c.fx
 a:i64 c.ad
 i:i64 c.ins
 n:(∀ x∈c.nodes,x.v<top∧i64 x.op∧i64 x.a∧i64 x.b)∧c.nodes.length*56≤140737488351232
 g:(∀ x∈c.gates,i64 x)∧c.gates.length*8≤140737488351232
 l:(∀ x∈c.looks,((∀ y∈x.1,i64 y)∧x.1.length*8≤140737488351232)∧((∀ y∈x.2,i64 y)∧x.2.length*8≤140737488351232))∧c.looks.length*48≤140737488351232
 e:(∀ x∈c.eqs,i64 x.1∧i64 x.2)∧c.eqs.length*16≤140737488351232
end Go.Pl
namespace Go.Proofs.YtlmjdcbhpffanaaGreat
open Go.Sx Go.Pl Go.RowKit Go.ChangeShapes Go.WideShapes Go.ChangeAt
set_option linter.unusedVariables false
set_option maxRecDepth 100000
theorem u3:Tryz.prog.underlying 3=some (.int .i64):=by kernel_rfl
theorem c3:Tryz.prog.cellsOf 3=1:=by kernel_rfl
theorem u51:Tryz.prog.underlying 51=some (.int .u64):=by kernel_rfl
theorem c51:Tryz.prog.cellsOf 51=1:=by kernel_rfl
theorem u4:Tryz.prog.underlying 4=some (.bool):=by kernel_rfl
theorem wA:Cod Tryz.prog 3 1 (fun(z:Int) _=>.v (.int .i64 z)) i64:=(Cod.int u3 c3).mono fun z h=>by
 simp [Lit.wf,IntKind.min,IntKind.max,IntKind.signed,IntKind.bits] at h
 simp only[i64]; omega
theorem zRq:Cod Tryz.prog 51 1 (fun(z:Nat) _=>.v (.int .u64 (z:Int))) (fun z=>z<18446744073709551616):=(Cod.int u51 c51).conv fun z h=>by
 simp [Lit.wf,IntKind.min,IntKind.max,IntKind.signed,IntKind.bits] at h
 refine⟨z.toNat,by omega,fun j _=>?_⟩
 rw[show((z.toNat:Nat):Int)=z by omega]
theorem u53:Tryz.prog.underlying 53=some (.array 4 51):=by kernel_rfl
theorem c53:Tryz.prog.cellsOf 53=4:=by kernel_rfl
theorem zYh:Tryz.prog.bytesOf 53=32:=by kernel_rfl
theorem zFb:Cod Tryz.prog 53 4 (fun(a:Nat) j=>.v (.int .u64 (qF a j:Nat))) (fun a=>a<top):=(Cod.arr4 zRq u53 c53).conv fun x h=>by
 obtain⟨h0,h1,h2,h3⟩:=h
 obtain⟨l0,l1,l2,l3⟩:=qZs h0 h1 h2 h3
 refine⟨nv x.1 x.2.1 x.2.2.1 x.2.2.2,zSl h0 h1 h2 h3,fun j hj=>?_⟩
 match j,hj with
 | 0,_=>rw[l0]; rfl
 | 1,_=>rw[l1]; rfl
 | 2,_=>rw[l2]; rfl
 | 3,_=>rw[l3]; rfl
theorem zRw:Tryz.prog.underlying 109=some (.struct #[⟨"Op",3,0,false, "", "",0⟩,⟨"A",3,1,false, "", "",8⟩,⟨"B",3,2,false, "", "",16⟩,⟨"V",53,3,false, "", "",24⟩]):=by kernel_rfl
theorem zVy:Tryz.prog.cellsOf 109=7:=by kernel_rfl
theorem zQn:Cod Tryz.prog 109 7 qBo (fun x=>x.v<top∧i64 x.op∧i64 x.a∧i64 x.b) where
 cells:=zVy
 opn:=by
  intro H enc w base sp hd n cs d p hl h hw
  obtain⟨xs,k,_,hx,_,hxl,hf⟩:=DataW.trod_struct zRw h
  simp only[pI] at hx
  obtain⟨rfl,rfl⟩:=hx
  have hW:∀ x∈DataW.weightsEach Tryz.prog [3,3,3,53] (xs.map (·.1)),x≤reachBytes:=fun x hx=>hw x (by simp only[DataW.weights,zRw]; exact hx)
  have hxl:xs.length=4:=hxl
  obtain⟨x0,o0,r0⟩:=wA.field (off:=0) (hf 0 _ rfl) (by omega) hW rfl (by omega)
  obtain⟨x1,o1,r1⟩:=wA.field (off:=1) (hf 1 _ rfl) (by omega) hW rfl (by omega)
  obtain⟨x2,o2,r2⟩:=wA.field (off:=2) (hf 2 _ rfl) (by omega) hW rfl (by omega)
  obtain⟨x3,o3,r3⟩:=zFb.field (off:=3) (hf 3 _ rfl) (by omega) hW rfl (by omega)
  refine⟨⟨x0,x1,x2,x3⟩,⟨o3,o0,o1,o2⟩,fun j hj=>?_⟩
  match j,hj with
  | 0,_=>exact r0 0 (by omega)
  | 1,_=>exact r1 0 (by omega)
  | 2,_=>exact r2 0 (by omega)
  | 3,_=>exact r3 0 (by omega)
  | 4,_=>exact r3 1 (by omega)
  | 5,_=>exact r3 2 (by omega)
  | 6,_=>exact r3 3 (by omega)
theorem zTa:Tryz.prog.bytesOf 109=56:=by kernel_rfl
theorem zSi:Tryz.prog.underlying 107=some (.struct #[⟨"Kind",3,0,false, "", "",0⟩,⟨"Col",3,1,false, "", "",8⟩]):=by kernel_rfl
theorem zWg:Tryz.prog.cellsOf 107=2:=by kernel_rfl
theorem zQy:Cod Tryz.prog 107 2 zIw (fun x=>i64 x.1∧i64 x.2) where
 cells:=zWg
 opn:=by
  intro H enc w base sp hd n cs d p hl h hw
  obtain⟨xs,k,_,hx,_,hxl,hf⟩:=DataW.trod_struct zSi h
  simp only[pI] at hx
  obtain⟨rfl,rfl⟩:=hx
  have hW:∀ x∈DataW.weightsEach Tryz.prog [3,3] (xs.map (·.1)),x≤reachBytes:=fun x hx=>hw x (by simp only[DataW.weights,zSi]; exact hx)
  have hxl:xs.length=2:=hxl
  obtain⟨x0,o0,r0⟩:=wA.field (off:=0) (hf 0 _ rfl) (by omega) hW rfl (by omega)
  obtain⟨x1,o1,r1⟩:=wA.field (off:=1) (hf 1 _ rfl) (by omega) hW rfl (by omega)
  refine⟨(x0,x1),⟨o0,o1⟩,fun j hj=>?_⟩
  match j,hj with
  | 0,_=>exact r0 0 (by omega)
  | 1,_=>exact r1 0 (by omega)
theorem zPv:Tryz.prog.bytesOf 107=16:=by kernel_rfl
theorem by3:Tryz.prog.bytesOf 3=8:=by kernel_rfl
theorem u22:Tryz.prog.underlying 22=some (.slice 109):=by kernel_rfl
theorem c22:Tryz.prog.cellsOf 22=1:=by kernel_rfl
theorem zKi:Cod Tryz.prog 22 1 (fun(l:List Nd) _=>.s false 7 l.length (cN l)) (fun l=>(∀ x∈l,x.v<top∧i64 x.op∧i64 x.a∧i64 x.b)∧l.length*56≤140737488351232):=(Cod.slice zQn u22 c22 dN).mono fun l h=>by
 obtain⟨h1,h2⟩:=h
 rw[zTa,reachBytes] at h2
 exact⟨h1,h2⟩
theorem u23:Tryz.prog.underlying 23=some (.slice 3):=by kernel_rfl
theorem c23:Tryz.prog.cellsOf 23=1:=by kernel_rfl
theorem qYf:Cod Tryz.prog 23 1 (fun(l:List Int) _=>.s false 1 l.length (cI l)) (fun l=>(∀ x∈l,i64 x)∧l.length*8≤140737488351232):=(Cod.slice wA u23 c23 0).mono fun l h=>by
 obtain⟨h1,h2⟩:=h
 rw[by3,reachBytes] at h2
 exact⟨h1,h2⟩
theorem u67:Tryz.prog.underlying 67=some (.slice 53):=by kernel_rfl
theorem c67:Tryz.prog.cellsOf 67=1:=by kernel_rfl
theorem zDk:Cod Tryz.prog 67 1 (fun(l:List Nat) _=>.s false 4 l.length (cE l)) (fun l=>(∀ x∈l,x<top)∧l.length*32≤140737488351232):=(Cod.slice zFb u67 c67 0).mono fun l h=>by
 obtain⟨h1,h2⟩:=h
 rw[zYh,reachBytes] at h2
 exact⟨h1,h2⟩
theorem u25:Tryz.prog.underlying 25=some (.slice 107):=by kernel_rfl
theorem c25:Tryz.prog.cellsOf 25=1:=by kernel_rfl
theorem zLp:Cod Tryz.prog 25 1 (fun(l:List (Int×Int)) _=>.s false 2 l.length (cK l)) (fun l=>(∀ x∈l,i64 x.1∧i64 x.2)∧l.length*16≤140737488351232):=(Cod.slice zQy u25 c25 (0,0)).mono fun l h=>by
 obtain⟨h1,h2⟩:=h
 rw[zPv,reachBytes] at h2
 exact⟨h1,h2⟩
theorem u76:Tryz.prog.underlying 76=some (.struct #[⟨"Inputs",23,0,false, "", "",0⟩,⟨"Tables",23,1,false, "", "",24⟩]):=by kernel_rfl
theorem c76:Tryz.prog.cellsOf 76=2:=by kernel_rfl
theorem zQt:Cod Tryz.prog 76 2 zEf (fun x=>((∀ y∈x.1,i64 y)∧x.1.length*8≤140737488351232)∧((∀ y∈x.2,i64 y)∧x.2.length*8≤140737488351232)) where
 cells:=c76
 opn:=by
  intro H enc w base sp hd n cs d p hl h hw
  obtain⟨xs,k,_,hx,_,hxl,hf⟩:=DataW.trod_struct u76 h
  simp only[pI] at hx
  obtain⟨rfl,rfl⟩:=hx
  have hW:∀ x∈DataW.weightsEach Tryz.prog [23,23] (xs.map (·.1)),x≤reachBytes:=fun x hx=>hw x (by simp only[DataW.weights,u76]; exact hx)
  have hxl:xs.length=2:=hxl
  obtain⟨x0,o0,r0⟩:=qYf.field (off:=0) (hf 0 _ rfl) (by omega) hW rfl (by omega)
  obtain⟨x1,o1,r1⟩:=qYf.field (off:=1) (hf 1 _ rfl) (by omega) hW rfl (by omega)
  refine⟨(x0,x1),⟨o0,o1⟩,fun j hj=>?_⟩
  match j,hj with
  | 0,_=>exact r0 0 (by omega)
  | 1,_=>exact r1 0 (by omega)
theorem zVc:Tryz.prog.bytesOf 76=48:=by kernel_rfl
theorem u24:Tryz.prog.underlying 24=some (.slice 76):=by kernel_rfl
theorem c24:Tryz.prog.cellsOf 24=1:=by kernel_rfl
theorem zLe:Cod Tryz.prog 24 1 (fun(l:List (List Int×List Int)) _=>.s false 2 l.length (cL l)) (fun l=>(∀ x∈l,((∀ y∈x.1,i64 y)∧x.1.length*8≤140737488351232)∧((∀ y∈x.2,i64 y)∧x.2.length*8≤140737488351232))∧l.length*48≤140737488351232):=(Cod.slice zQt u24 c24 ([],[])).mono fun l h=>by
 obtain⟨h1,h2⟩:=h
 rw[zVc,reachBytes] at h2
 exact⟨h1,h2⟩
theorem u27:Tryz.prog.underlying 27=some (.struct #[⟨"Fixed",3,0,false, "", "",0⟩,⟨"Advice",3,1,false, "", "",8⟩,⟨"Instance",3,2,false, "", "",16⟩,⟨"Nodes",22,3,false, "", "",24⟩,⟨"Gates",23,4,false, "", "",48⟩,⟨"Lookups",24,5,false, "", "",72⟩,⟨"Equal",25,6,false, "", "",96⟩]):=by kernel_rfl
theorem c27:Tryz.prog.cellsOf 27=7:=by kernel_rfl
theorem zPx:Cod Tryz.prog 27 7 zFn Cir.ok where
 cells:=c27
 opn:=by
  intro H enc w base sp hd n cs d p hl h hw
  obtain⟨xs,k,_,hx,_,hxl,hf⟩:=DataW.trod_struct u27 h
  simp only[pI] at hx
  obtain⟨rfl,rfl⟩:=hx
  have hW:∀ x∈DataW.weightsEach Tryz.prog [3,3,3,22,23,24,25] (xs.map (·.1)),x≤reachBytes:=fun x hx=>hw x (by simp only[DataW.weights,u27]; exact hx)
  have hxl:xs.length=7:=hxl
  obtain⟨x0,o0,r0⟩:=wA.field (off:=0) (hf 0 _ rfl) (by omega) hW rfl (by omega)
  obtain⟨x1,o1,r1⟩:=wA.field (off:=1) (hf 1 _ rfl) (by omega) hW rfl (by omega)
  obtain⟨x2,o2,r2⟩:=wA.field (off:=2) (hf 2 _ rfl) (by omega) hW rfl (by omega)
  obtain⟨x3,o3,r3⟩:=zKi.field (off:=3) (hf 3 _ rfl) (by omega) hW rfl (by omega)
  obtain⟨x4,o4,r4⟩:=qYf.field (off:=4) (hf 4 _ rfl) (by omega) hW rfl (by omega)
  obtain⟨x5,o5,r5⟩:=zLe.field (off:=5) (hf 5 _ rfl) (by omega) hW rfl (by omega)
  obtain⟨x6,o6,r6⟩:=zLp.field (off:=6) (hf 6 _ rfl) (by omega) hW rfl (by omega)
  refine⟨⟨x0,x1,x2,x3,x4,x5,x6⟩,⟨o0,o1,o2,o3,o4,o5,o6⟩,fun j hj=>?_⟩
  match j,hj with
  | 0,_=>exact r0 0 (by omega)
  | 1,_=>exact r1 0 (by omega)
  | 2,_=>exact r2 0 (by omega)
  | 3,_=>exact r3 0 (by omega)
  | 4,_=>exact r4 0 (by omega)
  | 5,_=>exact r5 0 (by omega)
  | 6,_=>exact r6 0 (by omega)
end Go.Proofs.YtlmjdcbhpffanaaGreat
/- ExprMemory: the walk. -/
namespace Go.Pl
open Go.Sx
theorem qSf:∀(l:List Nd) (out:List (Int×Int×Int)),(qsN out l).length≤out.length+l.length
 | [],out=>by rw[qsN]; exact Nat.le_add_right _ _
 | x::r,out=>by
  rw[qsN]
  split
  ·have:=qSf r (out++[(x.op,x.a,x.b)])
   rw[List.length_append] at this
   simp only[List.length_cons,List.length_nil] at this ⊢
   omega
  ·have:=qSf r out
   rw[List.length_cons]
   omega
theorem qBr(l:List Nd)(root:Int):(zL l root).length≤l.length:=by
 rw[zL]
 split
 ·rename_i h
  rw[List.length_map]
  refine Nat.le_trans (List.length_filter_le _ _) ?_
  rw[List.length_range]
  omega
 ·exact Nat.zero_le _
end Go.Pl
namespace Go.Proofs.YtlmjdcbhpffanaaGreat
open Go.Sx Go.Pl
set_option linter.unusedVariables false
set_option maxRecDepth 100000
end Go.Proofs.YtlmjdcbhpffanaaGreat
/- Values and degrees, place by place; where all degrees are 1 at most the values are linear. -/
namespace Go.Pl
open Go.Sx
end Go.Pl
/- What a node hangs on: its cone alone. -/
namespace Go.Pl
open Go.Sx
def inC(l:List Nd)(root k:Nat):Bool:=(wT l (root+1) ((List.replicate l.length false).set root true)).getD k false
theorem zHt{l:List Nd}{root:Int}(ho:zV 0 l=true)(h0:0≤root)(h1:root<(l.length:Int)):zL l root=((List.range (root.toNat+1)).filter fun i=>inC l root.toNat i).map fun(i:Nat)=>(i:Int):=by
 rw[zL,if_pos ⟨ho,h0,h1⟩]; rfl
theorem zAp{l:List Nd}{root:Int}(h:zL l root≠[]):zV 0 l=true∧0≤root∧root<(l.length:Int):=by
 by_cases hc:zV 0 l=true∧0≤root∧root<(l.length:Int)
 ·exact hc
 ·rw[zL,if_neg hc] at h
  exact absurd rfl h
end Go.Pl
/- A row of one's own that is given up: from now on it is frozen memory. -/
namespace Go.Sx
open Go.RowKit
mutual
def qIc (i n : Nat) : SV → SV
  | .o j => bif Nat.beq j i then .x n [] else .o j
  | .agg cs => .agg (qMt i n cs)
  | .tup cs => .tup (qMt i n cs)
  | .fn f a c => .fn f (qMt i n a) (qMt i n c)
  | .ifc t y => .ifc t (qIc i n y)
  | .v x => .v x
  | .bl b => .bl b
  | .p j off => .p j off
  | .q j off => .q j off
  | .m j => .m j
  | .sl j off len cap => .sl j off len cap
  | .x j p => .x j p
  | .xp j p sz k c => .xp j p sz k c
  | .qk j sz k c => .qk j sz k c
def qMt (i n : Nat) : List SV → List SV
  | [] => []
  | x :: r => qIc i n x :: qMt i n r
end
mutual
theorem qEt (i n : Nat) (e : Env) (h : e.val n [] = e.row i) : ∀ s, den e (qIc i n s) = den e s
  | .o j => by
    simp only [qIc]
    cases hb : Nat.beq j i with
    | true => rw [cond_true, den, den, h, Nat.eq_of_beq_eq_true hb]
    | false => rfl
  | .agg cs => by simp only [qIc, den, xS i n e h cs]
  | .tup cs => by simp only [qIc, den, xS i n e h cs]
  | .fn f a c => by simp only [qIc, den, xS i n e h a, xS i n e h c]
  | .ifc t y => by simp only [qIc, den, qEt i n e h y]
  | .v x => rfl
  | .bl b => rfl
  | .p j off => rfl
  | .q j off => rfl
  | .m j => rfl
  | .sl j off len cap => rfl
  | .x j p => rfl
  | .xp j p sz k c => rfl
  | .qk j sz k c => rfl
theorem xS (i n : Nat) (e : Env) (h : e.val n [] = e.row i) : ∀ l, qN e (qMt i n l) = qN e l
  | [] => rfl
  | x :: r => by simp only [qMt, qN, qEt i n e h x, xS i n e h r]
end
mutual
theorem qHx (i n m : Nat) (h : n < m) : ∀ s, ws m s → ws m (qIc i n s)
  | .o j, hs => by
    simp only [qIc]
    cases Nat.beq j i with
    | true => exact h
    | false => exact hs
  | .agg cs, hs => wW i n m h cs hs
  | .tup cs, hs => wW i n m h cs hs
  | .fn f a c, hs => ⟨wW i n m h a hs.1, wW i n m h c hs.2⟩
  | .ifc t y, hs => qHx i n m h y hs
  | .v x, _ => trivial
  | .bl b, _ => trivial
  | .p j off, hs => hs
  | .q j off, hs => hs
  | .m j, hs => hs
  | .sl j off len cap, hs => hs
  | .x j p, hs => hs
  | .xp j p sz k c, hs => hs
  | .qk j sz k c, hs => hs
theorem wW (i n m : Nat) (h : n < m) : ∀ l, wsL m l → wsL m (qMt i n l)
  | [], _ => trivial
  | x :: r, hs => ⟨qHx i n m h x hs.1, wW i n m h r hs.2⟩
end
def zBj(i n:Nat):List (Nat×SV)→List (Nat×SV)
 | []=>[]
 | (t,s)::r=>(t,qIc i n s)::zBj i n r
theorem qCd(i n:Nat):∀(l:List (Nat×SV)) {t:Nat} {s:SV},lk (zBj i n l) t=some s→∃ s0,lk l t=some s0∧s=qIc i n s0
 | [],t,s,h=>by cases h
 | (u,x)::r,t,s,h=>by
  simp only[zBj,lk] at h ⊢
  cases hb:Nat.beq u t with
  | true =>
   rw[hb] at h
   simp only[cond_true,sI] at h
   exact⟨x,rfl,h.symm⟩
  | false =>
   rw[hb] at h
   exact qCd i n r h
theorem FOk.frz{P:Program}{m:Nat}{fn:Func}{Q:SV→List HO→Prop}{k:List It}{tm:List (Nat×SV)}{h:List HO}(i:Nat){T:TypeId}{sz n:Nat}{c:Ct}(hi:h[i]?=some (.rowc T sz n c))(hk:zX P m fn Q k ⟨zBj i h.length tm,h.set i .gone++[.ext false (.s false sz n c.at)]⟩):zX P m fn Q k ⟨tm,h⟩:=by
 intro F hF w0 hw0 e a w S T0
 have hlt:=(List.getElem?_eq_some_iff.1 hi).1
 obtain⟨S1,hle⟩:=S.drop hF i hlt
 obtain⟨qR,h1,_,h2⟩:=S.sat i _ hi
 obtain⟨f,f1,f2,f3⟩:=S.frozen hi rfl h1 hle h2
 have S2:=S1.newExt hF false (.s false sz n c.at) f f1 (by simpa using f3)
 rw[List.length_set] at S2
 have hag:=jB e h.length f f1
 have hv:(e.setV h.length f f1).val h.length []=(e.setV h.length f f1).row i:=by
  have:(e.setV h.length f f1).val h.length=f:=by simp [Env.setV]
  rw[this,f2]; rfl
 refine hk F hF w0 hw0 _ a w S2 ⟨T0.size,T0.defers,fun t s hs=>?_,fun t s hs=>?_⟩
 ·obtain⟨s0,q1,rfl⟩:=qCd i _ tm hs
  rw[qEt i _ _ hv,T0.get t s0 q1,jJ hag s0 (T0.wsc t s0 q1)]
 ·obtain⟨s0,q1,rfl⟩:=qCd i _ tm hs
  have hl:(h.set i HO.gone++[HO.ext false (.s false sz n c.at)]).length=h.length+1:=by simp
  show ws (h.set i HO.gone++[HO.ext false (.s false sz n c.at)]).length _
  rw[hl]
  exact qHx i _ _ (Nat.lt_succ_self _) s0 (yO (Nat.le_succ _) s0 (T0.wsc t s0 q1))
theorem qI.frz1{P:Program}{m:Nat}{f:FuncId}{args:List SV}{h:List HO}{r0:SV}{h0:List HO}(i:Nat){T:TypeId}{sz n:Nat}{c:Ct}(hi:h0[i]?=some (.rowc T sz n c))(k:zS P m f args h fun r h'=>r=r0∧h'=h0):zS P m f args h fun r h'=>r=qIc i h0.length r0∧h'=h0.set i .gone++[.ext false (.s false sz n c.at)]:=by
 intro F hF w0 e hm0 S hw
 refine(k F hF w0 e hm0 S hw).mono fun E w' hE=>?_
 obtain⟨e1,r,h',⟨rfl,rfl⟩,h2,S,h4⟩:=hE
 have hlt:=(List.getElem?_eq_some_iff.1 hi).1
 obtain⟨S1,hle⟩:=S.drop hF i hlt
 obtain⟨qR,h1,_,h2'⟩:=S.sat i _ hi
 obtain⟨f,f1,f2,f3⟩:=S.frozen hi rfl h1 hle h2'
 have S2:=S1.newExt hF false (.s false sz n c.at) f f1 (by simpa using f3)
 rw[List.length_set] at S2
 have hag:=jB e1 h'.length f f1
 have hv:(e1.setV h'.length f f1).val h'.length []=(e1.setV h'.length f f1).row i:=by
  have:(e1.setV h'.length f f1).val h'.length=f:=by simp [Env.setV]
  rw[this,f2]; rfl
 have hl:(h'.set i HO.gone++[HO.ext false (.s false sz n c.at)]).length=h'.length+1:=by simp
 refine⟨_,_,_,⟨rfl,rfl⟩,?_,S2,?_⟩
 ·rw[hl]
  exact qHx i _ _ (Nat.lt_succ_self _) r (yO (Nat.le_succ _) r h2)
 ·rw[h4,qEt i _ _ hv,jJ hag r h2]
theorem qI.gc{P:Program}{m:Nat}{f:FuncId}{args:List SV}{h:List HO}{r0 r1:SV}{h0 h1:List HO}(hg:gcS m r0 h0=some (r1,h1))(k:zS P m f args h fun r h'=>r=r0∧h'=h0):zS P m f args h fun r h'=>r=r1∧h'=h1:=by
 intro F hF w0 e hm0 S hw
 refine(k F hF w0 e hm0 S hw).mono fun E w' hE=>?_
 obtain⟨e1,r,h',⟨rfl,rfl⟩,h2,S,h4⟩:=hE
 obtain⟨e2,S2,d2,w2⟩:=qPn hF hm0 S hg
 exact⟨e2,r1,h1,⟨rfl,rfl⟩,w2,S2,by rw[h4,d2]⟩
end Go.Sx
/- Lists of integers: copied; of queries: compared. -/
namespace Go.Pl
open Go.Sx
structure lI (n:Nat) (c:Nat→Nat→qB) (k:List Int→Prop):Prop where
 h:∃ l:List Int,n=l.length∧IsC n 1 c (cI l)∧l.length≤17592186043904∧k l
structure lI2 (n n2:Nat) (c c2:Nat→Nat→qB) (k:List Int→List Int→Prop):Prop where
 h:∃ l l2:List Int,n=l.length∧IsC n 1 c (cI l)∧n2=l2.length∧IsC n2 1 c2 (cI l2)∧l.length≤17592186043904∧k l l2
end Go.Pl
namespace Go.Proofs.YtlmjdcbhpffanaaGreat
open Go.Sx Go.Pl
set_option linter.unusedVariables false
set_option maxRecDepth 100000
theorem ciS(l:List Int)(K:List It→St→Prop)(R:SV→List HO→Prop):W (xwp Tryz.prog X K31 [] 60 (qO Tryz.f33 [] []) [] [.at []] ⟨qQ 0 [.x 0 []],[.ext false (.s false 1 l.length (cI l))]⟩ K R)=W ((∀ M:Mem,(0+List.length l)*8≤140737488355328∧0+List.length l≤140737488355328)∧R (.o 0) [.rowc 3 1 (0+List.length l) (.app 0 (.lit 1 []) (.fn (cI l)))]):=by kernel_rfl
theorem qUl(b b2:Bool)(l l2:List Int)(hl:l.length=l2.length)(hb:l.length≤17592186043904)(Q:SV→List HO→Prop)(hq1:(∀ k,k<l.length→gI l k=gI l2 k)→Q (.v (.bool true)) [])(hq0:(∃ k,k<l.length∧¬ (gI l k=gI l2 k))→Q (.v (.bool false)) []):
  ∀(d k:Nat),k+d=l.length→(∀ k',k'<k→gI l k'=gI l2 k') →
  FOk Tryz.prog Tryz.f14 Q (.rnd [0,0,1,0,1,1] (d+1)::[.blk 0,.at [1,1,1]]) ⟨[(5,.v (.int .i64 (k:Int))),(4,.v (.bool false)),(0,.x 0 []),(1,.x 1 [])],[.ext b (.s false 1 l.length (cI l)),.ext b2 (.s false 1 l2.length (cI l2))]⟩
 | 0,k,hd,he=>by
  refine FOk.rnd (qC hm 60 ((siR b b2 l l2 l.length l2.length k 0 _ _).mpr ⟨?_⟩))
  simp only[qD]
  rw[if_neg (by omega)]
  exact hq1 fun k' hk'=>he k' (by omega)
 | d+1,k,hd,he=>by
  refine FOk.rnd (qC hm 60 ((siR b b2 l l2 l.length l2.length k (d+1) _ _).mpr ⟨?_⟩))
  simp only[qD,qV,zC,forall_const]
  rw[if_pos (by omega)]
  repeat' (first | refine And.intro (by omega) ?_ | refine qG (fun h=>?_) (fun h=>?_))
  ·rw[qK _ (by omega)]
   refine qUl b b2 l l2 hl hb Q hq1 hq0 d (k+1) (by omega) fun k' hk'=>?_
   by_cases hh:k'=k
   ·rw[hh]; exact h
   ·exact he k' (by omega)
  ·exact hq0 ⟨k,by omega,h⟩
theorem zXg:Tryz.f14.body.isSome=true:=by kernel_rfl
theorem zVp:Nat.ble [SV.x 0 [],.x 1 []].length Tryz.f14.ntmps=true:=by kernel_rfl
theorem zKx(b b2:Bool)(l l2:List Int)(hb:l.length≤17592186043904)(Q:SV→List HO→Prop)(hq1:l.length=l2.length→(∀ k,k<l.length→gI l k=gI l2 k)→Q (.v (.bool true)) [])(hq0:(l.length≠l2.length∨∃ k,k<l.length∧¬ (gI l k=gI l2 k))→Q (.v (.bool false)) []):qI Tryz.prog 14 [.x 0 [],.x 1 []] [.ext b (.s false 1 l.length (cI l)),.ext b2 (.s false 1 l2.length (cI l2))] Q:=by
 refine qL Tryz.func14 zXg ?_ ?_
 ·exact zVp
 refine qC hm 60 ((siS b b2 l l2 l.length l2.length _ _).mpr ⟨?_⟩)
 simp only[qV,zC]
 refine qG (fun h=>?_) (fun h=>hq0 (.inl (by omega)))
 have h':l.length=l2.length:=by omega
 exact FOk.loop (l.length+1) (by kernel_rfl) (qUl b b2 l l2 h' hb Q (hq1 h') (fun hh=>hq0 (.inr hh)) l.length 0 (by omega) fun k' hk'=>by omega)
noncomputable def zCq:List SV→List HO→Option ((SV→List HO→Prop)→Prop)
 | [.x 0 [],.x 1 []],[.ext _ (.s false 1 n c),.ext _ (.s false 1 n2 c2)]=>some fun Q=>lI2 n n2 c c2 fun l l2=>Q (.v (.bool (decide (l=l2)))) []
 | _,_=>none
theorem zCi(args:List SV)(h:List HO)(tr:(SV→List HO→Prop)→Prop)(Q:SV→List HO→Prop)(hc:zCq args h=some tr)(ht:tr Q):qI Tryz.prog 14 args h Q:=by
 unfold zCq at hc
 split at hc
 ·rename_i b n c b2 n2 c2
  simp only[sI] at hc
  subst hc
  obtain⟨l,l2,rfl,he,rfl,he2,hb,hq⟩:=ht.h
  refine qI.ac (zKx b b2 l l2 hb Q (fun h1 h2=>?_) (fun h1=>?_)) ⟨⟨rfl,rfl,rfl,rfl,he⟩,⟨rfl,rfl,rfl,rfl,he2⟩,trivial⟩
  ·rw[decide_eq_true (zEy h1 h2)] at hq; exact hq
  ·rw[decide_eq_false (fun hh=>by subst hh; exact h1.elim (fun h=>h rfl) (fun⟨_,_,h⟩=>h rfl))] at hq; exact hq
 ·cases hc
theorem bci:Tryz.f33.body.isSome=true:=by kernel_rfl
theorem nci:Nat.ble [SV.x 0 []].length Tryz.f33.ntmps=true:=by kernel_rfl
theorem zSa(all:List Int)(hb:all.length≤17592186043904)(Q:SV→List HO→Prop)(hq:Q (.o 0) [.rowc 3 1 all.length (.fn (cI all))]):qI Tryz.prog 33 [.x 0 []] [.ext false (.s false 1 all.length (cI all))] Q:=by
 refine qI.mono (qI.eqv (r0:=.o 0) (h0:=[.rowc 3 1 all.length (.fn (cI all))]) ?_) (fun r h' hh=>by rw[hh.1,hh.2]; exact hq)
 refine qL Tryz.func33 bci ?_ ?_
 ·exact nci
 refine qC hm 60 ((ciS all _ _).mpr ⟨?_⟩)
 refine⟨fun _=>by omega,rfl,⟨rfl,rfl,by omega,fun k hk j hj=>?_⟩,trivial⟩
 exact xN _ _ _ (Nat.zero_le _)
theorem zLx(all:List Int)(hb:all.length≤17592186043904)(Q:SV→List HO→Prop)(hq:Q (.x 0 []) [.ext false (.s false 1 all.length (cI all))]):qI Tryz.prog 33 [.x 0 []] [.ext false (.s false 1 all.length (cI all))] Q:=by
 have h:=qI.gc (r1:=.x 0 []) (h1:=[.ext false (.s false 1 all.length (cI all))]) rfl (qI.frz1 0 rfl (zSa all hb (fun r h'=>r=.o 0∧h'=[.rowc 3 1 all.length (.fn (cI all))]) ⟨rfl,rfl⟩))
 exact qI.mono h fun r h' hh=>by rw[hh.1,hh.2]; exact hq
noncomputable def zJf:List SV→List HO→Option ((SV→List HO→Prop)→Prop)
 | [.x 0 []],[.ext false (.s false 1 n c)]=>some fun Q=>lI n c fun l=>Q (.x 0 []) [.ext false (.s false 1 l.length (cI l))]
 | _,_=>none
theorem zGi(args:List SV)(h:List HO)(tr:(SV→List HO→Prop)→Prop)(Q:SV→List HO→Prop)(hc:zJf args h=some tr)(ht:tr Q):qI Tryz.prog 33 args h Q:=by
 unfold zJf at hc
 split at hc
 ·rename_i n c
  simp only[sI] at hc
  subst hc
  obtain⟨l,rfl,he,hb,hq⟩:=ht.h
  exact qI.ac (zLx l hb Q hq) ⟨⟨rfl,rfl,rfl,rfl,he⟩,trivial⟩
 ·cases hc
noncomputable def K44:Con Tryz.prog:=(K31.add 14 zCq zCi).add 33 zJf zGi
end Go.Proofs.YtlmjdcbhpffanaaGreat
/- A circuit as new memory. -/
namespace Go.Pl
open Go.Sx
theorem zHd{l:List (List Int×List Int)}{k:Nat}(a b:List Int)(h:l.length=k):IsC (k+1) 2 (Ct.app k (.fn (cL l)) (.lit 2 [.s false 1 a.length (cI a),.s false 1 b.length (cI b)])).at (Ct.fn (cL (l++[(a,b)]))).at:=by
 subst h
 exact xQ zEf ([],[]) 2 l (a,b) _ fun j hj=>by
  match j,hj with
  | 0,_=>rfl
  | 1,_=>rfl
theorem qCt{l:List (List Int×List Int)}{k:Nat}(h:k<l.length):gL l k∈l:=by
 rw[gL,List.getD_eq_getElem?_getD,List.getElem?_eq_getElem h]
 exact List.getElem_mem h
theorem zAh{l:List (List Int×List Int)}{k:Nat}(h:k<l.length):l.take k++[((gL l k).1,(gL l k).2)]=l.take (k+1):=by
 rw[List.take_add_one,List.getElem?_eq_getElem h,gL,List.getD_eq_getElem?_getD,List.getElem?_eq_getElem h]
 rfl
structure lC (fx ad ins:Int) (n0 n1 n2 n3:Nat) (c0 c1 c2 c3:Nat→Nat→qB) (k:Cir→Prop):Prop where
 h:∃ c:Cir,fx=c.fx∧ad=c.ad∧ins=c.ins∧(n0=c.nodes.length∧IsC n0 7 c0 (cN c.nodes))∧(n1=c.gates.length∧IsC n1 1 c1 (cI c.gates))∧(n2=c.looks.length∧IsC n2 2 c2 (cL c.looks))∧(n3=c.eqs.length∧IsC n3 2 c3 (cK c.eqs))∧c.ok∧k c
theorem qBt(c:Cir)(hc:c.ok){k:Cir→Prop}(h:k c):lC c.fx c.ad c.ins c.nodes.length c.gates.length c.looks.length c.eqs.length (cN c.nodes) (cI c.gates) (cL c.looks) (cK c.eqs) k :=
 ⟨⟨c,rfl,rfl,rfl,⟨rfl,IsC.refl _ _ _⟩,⟨rfl,IsC.refl _ _ _⟩,⟨rfl,IsC.refl _ _ _⟩,⟨rfl,IsC.refl _ _ _⟩,hc,h⟩⟩
end Go.Pl
namespace Go.Proofs.YtlmjdcbhpffanaaGreat
open Go.Sx Go.Pl
set_option linter.unusedVariables false
set_option maxRecDepth 100000
theorem ccS(c:Cir)(K:List It→St→Prop)(R:SV→List HO→Prop):W (xwp Tryz.prog X K44 [] 60 (qO Tryz.f8 [] [⟨[0,1,0,1,1,1,1],[4,3,1,2],[]⟩]) [] [.at []] ⟨qQ 0 [.agg [.v (.int .i64 c.fx),.v (.int .i64 c.ad),.v (.int .i64 c.ins),.x 0 [],.x 1 [],.x 2 [],.x 3 []]],[.ext false (.s false 7 c.nodes.length (cN c.nodes)),.ext false (.s false 1 c.gates.length (cI c.gates)),.ext false (.s false 2 c.looks.length (cL c.looks)),.ext false (.s false 2 c.eqs.length (cK c.eqs))]⟩ K R)=W (∃(l:List Nd),List.length c.4=List.length l∧IsC c.4.length 7 (cN c.4) (cN l)∧List.length l≤2513169434916∧(∀ M:Mem,3+1≤7)∧lI c.5.length (cI c.5) fun(l_1:List Int)=>(∀ M:Mem,4+1≤7)∧K [.at [0,1,0,1,1,1,1],.blk 0,.at [1,1,1,1,1]] (St.mk [(4,.v (qA 0)),(3,.o 0),(1,.p 1 0),(2,.p 2 0)] [.rowc 76 2 0 (.lit 2 []),.cells [.v (qA c.1),.v (qA c.2),.v (qA c.3),.o 3,.x 4 [],.x 5 [],.x 6 []] 27,.cells [.v (qA 0),.v (qA 0),.v (qA 0),.v (Value.slice none 0 0),.v (Value.slice none 0 0),.v (Value.slice none 0 0),.v (Value.slice none 0 0)] 27,.rowc 109 7 l.length (.fn (cN l)),.ext false (.s false 1 l_1.length (cI l_1)),.ext false (.s false 2 c.6.length (cL c.6)),.ext false (.s false 2 c.7.length (cK c.7))])):=by kernel_rfl
theorem ccR(c:Cir)(ls:List (List Int×List Int))(m k M:Nat)(K:List It→St→Prop)(R:SV→List HO→Prop):W (xwp Tryz.prog X K44 [] 60 (qO Tryz.f8 [] [⟨[0,1,0,1,1,1,1],[4,3,1,2],[]⟩]) [] (.at [0,0,1,0,1,1,1,1]::.rnd [0,0,1,0,1,1,1,1] M::[.blk 0,.at [1,1,1,1,1]]) ⟨[(4,.v (.int .i64 (k:Int))),(3,.o 0),(1,.p 1 0),(2,.p 2 0)],[.rowc 76 2 m (.fn (cL ls)),.cells [.v (.int .i64 c.fx),.v (.int .i64 c.ad),.v (.int .i64 c.ins),.o 3,.x 4 [],.x 5 [],.x 6 []] 27,.cells [.v (.int .i64 0),.v (.int .i64 0),.v (.int .i64 0),.v (.slice none 0 0),.v (.slice none 0 0),.v (.slice none 0 0),.v (.slice none 0 0)] 27,.rowc 109 7 c.nodes.length (.fn (cN c.nodes)),.ext false (.s false 1 c.gates.length (cI c.gates)),.ext false (.s false 2 c.looks.length (cL c.looks)),.ext false (.s false 2 c.eqs.length (cK c.eqs))]⟩ K R)=W (bif decide ((↑k:Int)<(↑c.6.length:Int)) then(∀ M:Mem,(0:Int)≤(↑k:Int)∧(↑k:Int)<(↑c.6.length:Int))∧(∀ M:Mem,k<List.length c.6)∧(∀ M:Mem,k<List.length c.6)∧(∀ M:Mem,(0:Int)≤(↑k:Int)∧(↑k:Int)<(↑c.6.length:Int))∧(∀ M:Mem,k<List.length c.6)∧(∀ M:Mem,k<List.length c.6)∧(∀ M:Mem,k<List.length c.6)∧lI (List.length (gL c.6 k).1) (cI (gL c.6 k).1) fun(l:List Int)=>(∀ M:Mem,k<List.length c.6)∧lI (List.length (gL c.6 k).2) (cI (gL c.6 k).2) fun(l_1:List Int)=>(∀ M:Mem,(m+1)*48≤140737488355328∧m+1≤140737488355328)∧K [.rnd [0,0,1,0,1,1,1,1] M,.blk 0,.at [1,1,1,1,1]] (St.mk [(4,.v (qA (IntKind.wrap .i64 ((↑k:Int)+(1:Int))))),(3,.o 0),(1,.p 1 0),(2,.p 2 0)] [.rowc 76 2 (m+1) (.app m (.fn (cL ls)) (.lit 2 [.s false 1 l.length (cI l),.s false 1 l_1.length (cI l_1)])),.cells [.v (qA c.1),.v (qA c.2),.v (qA c.3),.o 3,.x 4 [],.x 5 [],.x 6 []] 27,.cells [.v (qA 0),.v (qA 0),.v (qA 0),.v (Value.slice none 0 0),.v (Value.slice none 0 0),.v (Value.slice none 0 0),.v (Value.slice none 0 0)] 27,.rowc 109 7 c.4.length (.fn (cN c.4)),.ext false (.s false 1 c.5.length (cI c.5)),.ext false (.s false 2 c.6.length (cL c.6)),.ext false (.s false 2 c.7.length (cK c.7))]) else(∀ M:Mem,6≤7)∧(∀ M:Mem,(0+List.length c.7)*16≤140737488355328∧0+List.length c.7≤140737488355328)∧(∀ M:Mem,6+1≤7)∧(∀ M:Mem,0+7≤7)∧R (.agg [.v (qA c.1),.v (qA c.2),.v (qA c.3),.o 0,.x 1 [],.o 2,.o 3]) [.rowc 109 7 c.4.length (.fn (cN c.4)),.ext false (.s false 1 c.5.length (cI c.5)),.rowc 76 2 m (.fn (cL ls)),.rowc 107 2 (0+List.length c.7) (.app 0 (.lit 2 []) (.fn (cK c.7)))]):=by kernel_rfl
theorem qZx(c:Cir)(hc:c.ok)(Q:SV→List HO→Prop)(hq:Q (.agg [.v (.int .i64 c.fx),.v (.int .i64 c.ad),.v (.int .i64 c.ins),.o 0,.x 1 [],.o 2,.o 3]) [.rowc 109 7 c.nodes.length (.fn (cN c.nodes)),.ext false (.s false 1 c.gates.length (cI c.gates)),.rowc 76 2 c.looks.length (.fn (cL c.looks)),.rowc 107 2 (0+c.eqs.length) (.app 0 (.lit 2 []) (.fn (cK c.eqs)))]):∀(d k:Nat) (ls:List (List Int×List Int)),k+d=c.looks.length→ls=c.looks.take k →
  FOk Tryz.prog Tryz.f8 Q (.rnd [0,0,1,0,1,1,1,1] (d+1)::[.blk 0,.at [1,1,1,1,1]]) ⟨[(4,.v (.int .i64 (k:Int))),(3,.o 0),(1,.p 1 0),(2,.p 2 0)],[.rowc 76 2 k (.fn (cL ls)),.cells [.v (.int .i64 c.fx),.v (.int .i64 c.ad),.v (.int .i64 c.ins),.o 3,.x 4 [],.x 5 [],.x 6 []] 27,.cells [.v (.int .i64 0),.v (.int .i64 0),.v (.int .i64 0),.v (.slice none 0 0),.v (.slice none 0 0),.v (.slice none 0 0),.v (.slice none 0 0)] 27,.rowc 109 7 c.nodes.length (.fn (cN c.nodes)),.ext false (.s false 1 c.gates.length (cI c.gates)),.ext false (.s false 2 c.looks.length (cL c.looks)),.ext false (.s false 2 c.eqs.length (cK c.eqs))]⟩
 | 0,k,ls,hd,he=>by
  have h1:=hc.e.2
  refine FOk.rnd (qC hm 60 ((ccR c ls k k 0 _ _).mpr ⟨?_⟩))
  rw[qD,if_neg (by omega)]
  rw[show k=c.looks.length by omega,List.take_length] at he
  subst he
  rw[show k=c.looks.length by omega]
  exact aI (aI (aI (And.intro (fun _=>by omega) hq)))
 | d+1,k,ls,hd,he=>by
  have hk:k<c.looks.length:=by omega
  have h1:=hc.l.2
  obtain⟨⟨_,g1⟩,⟨_,g2⟩⟩:=hc.l.1 _ (qCt hk)
  have hlen:ls.length=k:=by rw[he,List.length_take]; omega
  refine FOk.rnd (qC hm 60 ((ccR c ls k k (d+1) _ _).mpr ⟨?_⟩))
  rw[qD,if_pos (by omega),qK _ (by omega)]
  refine aI (aI (aI (aI (aI (aI (aI (⟨⟨(gL c.looks k).1,rfl,IsC.refl _ _ _,by omega,And.intro (fun _=>hk) ⟨⟨(gL c.looks k).2,rfl,IsC.refl _ _ _,by omega,And.intro (fun _=>by omega) ?_⟩⟩⟩⟩)))))))
  exact FOk.cv (qZx c hc Q hq d (k+1) (ls++[((gL c.looks k).1,(gL c.looks k).2)]) (by omega) (by rw[he,zAh hk])) ⟨⟨rfl,rfl,rfl,zHd _ _ hlen⟩,HE.refl _,HE.refl _,HE.refl _,HE.refl _,HE.refl _,HE.refl _,trivial⟩
theorem bCc:Tryz.f8.body.isSome=true:=by kernel_rfl
theorem nCc(c:Cir):Nat.ble [(.agg [.v (.int .i64 c.fx),.v (.int .i64 c.ad),.v (.int .i64 c.ins),.x 0 [],.x 1 [],.x 2 [],.x 3 []]:SV)].length Tryz.f8.ntmps=true:=by kernel_rfl
theorem zRv(c:Cir)(hc:c.ok)(Q:SV→List HO→Prop)(hq:Q (.agg [.v (.int .i64 c.fx),.v (.int .i64 c.ad),.v (.int .i64 c.ins),.x 0 [],.x 1 [],.x 2 [],.x 3 []]) [.ext false (.s false 7 c.nodes.length (cN c.nodes)),.ext false (.s false 1 c.gates.length (cI c.gates)),.ext false (.s false 2 c.looks.length (cL c.looks)),.ext false (.s false 2 c.eqs.length (cK c.eqs))]):qI Tryz.prog 8 [.agg [.v (.int .i64 c.fx),.v (.int .i64 c.ad),.v (.int .i64 c.ins),.x 0 [],.x 1 [],.x 2 [],.x 3 []]] [.ext false (.s false 7 c.nodes.length (cN c.nodes)),.ext false (.s false 1 c.gates.length (cI c.gates)),.ext false (.s false 2 c.looks.length (cL c.looks)),.ext false (.s false 2 c.eqs.length (cK c.eqs))] Q:=by
 have h0:qI Tryz.prog 8 [.agg [.v (.int .i64 c.fx),.v (.int .i64 c.ad),.v (.int .i64 c.ins),.x 0 [],.x 1 [],.x 2 [],.x 3 []]] [.ext false (.s false 7 c.nodes.length (cN c.nodes)),.ext false (.s false 1 c.gates.length (cI c.gates)),.ext false (.s false 2 c.looks.length (cL c.looks)),.ext false (.s false 2 c.eqs.length (cK c.eqs))] (fun r h'=>r=.agg [.v (.int .i64 c.fx),.v (.int .i64 c.ad),.v (.int .i64 c.ins),.o 0,.x 1 [],.o 2,.o 3]∧HEs h' [.rowc 109 7 c.nodes.length (.fn (cN c.nodes)),.ext false (.s false 1 c.gates.length (cI c.gates)),.rowc 76 2 c.looks.length (.fn (cL c.looks)),.rowc 107 2 c.eqs.length (.fn (cK c.eqs))]):=by
  refine qL Tryz.func8 bCc ?_ ?_
  ·exact nCc c
  have h1:=hc.n.2
  have h2:=hc.g.2
  refine qC hm 60 ((ccS c _ _).mpr ⟨?_⟩)
  refine⟨c.nodes,rfl,IsC.refl _ _ _,by omega,And.intro (fun _=>by omega) ⟨⟨c.gates,rfl,IsC.refl _ _ _,by omega,And.intro (fun _=>by omega) ?_⟩⟩⟩
  refine FOk.loop (c.looks.length+1) (by kernel_rfl) (FOk.cv (qZx c hc _ ?_ c.looks.length 0 [] (by omega) rfl) ⟨⟨rfl,rfl,rfl,fun k hk=>by omega⟩,HE.refl _,HE.refl _,HE.refl _,HE.refl _,HE.refl _,HE.refl _,trivial⟩)
  exact⟨rfl,HE.refl _,HE.refl _,HE.refl _,⟨rfl,rfl,Nat.zero_add _,fun k hk j hj=>xN _ _ _ (Nat.zero_le _)⟩,trivial⟩
 have h1:=qI.frz1 0 (T:=109) (sz:=7) (n:=c.nodes.length) (c:=.fn (cN c.nodes)) (by kernel_rfl) (qI.eqv h0)
 have h2:=qI.frz1 2 (T:=76) (sz:=2) (n:=c.looks.length) (c:=.fn (cL c.looks)) (by kernel_rfl) h1
 have h3:=qI.frz1 3 (T:=107) (sz:=2) (n:=c.eqs.length) (c:=.fn (cK c.eqs)) (by kernel_rfl) h2
 have h2:=qI.gc (r1:=.agg [.v (.int .i64 c.fx),.v (.int .i64 c.ad),.v (.int .i64 c.ins),.x 0 [],.x 1 [],.x 2 [],.x 3 []]) (h1:=[.ext false (.s false 7 c.nodes.length (cN c.nodes)),.ext false (.s false 1 c.gates.length (cI c.gates)),.ext false (.s false 2 c.looks.length (cL c.looks)),.ext false (.s false 2 c.eqs.length (cK c.eqs))]) (by kernel_rfl) h3
 exact qI.mono h2 fun r h' hh=>by rw[hh.1,hh.2]; exact hq
noncomputable def gCc:List SV→List HO→Option ((SV→List HO→Prop)→Prop)
 | [.agg [.v (.int .i64 fx),.v (.int .i64 ad),.v (.int .i64 ins),.x 0 [],.x 1 [],.x 2 [],.x 3 []]],[.ext false (.s false 7 n0 c0),.ext false (.s false 1 n1 c1),.ext false (.s false 2 n2 c2),.ext false (.s false 2 n3 c3)] =>
  some fun Q=>lC fx ad ins n0 n1 n2 n3 c0 c1 c2 c3 fun c=>Q (.agg [.v (.int .i64 c.fx),.v (.int .i64 c.ad),.v (.int .i64 c.ins),.x 0 [],.x 1 [],.x 2 [],.x 3 []]) [.ext false (.s false 7 c.nodes.length (cN c.nodes)),.ext false (.s false 1 c.gates.length (cI c.gates)),.ext false (.s false 2 c.looks.length (cL c.looks)),.ext false (.s false 2 c.eqs.length (cK c.eqs))]
 | _,_=>none
theorem zJm(args:List SV)(h:List HO)(tr:(SV→List HO→Prop)→Prop)(Q:SV→List HO→Prop)(hc:gCc args h=some tr)(ht:tr Q):qI Tryz.prog 8 args h Q:=by
 unfold gCc at hc
 split at hc
 ·rename_i fx ad ins n0 c0 n1 c1 n2 c2 n3 c3
  simp only[sI] at hc
  subst hc
  obtain⟨c,rfl,rfl,rfl,⟨rfl,e0⟩,⟨rfl,e1⟩,⟨rfl,e2⟩,⟨rfl,e3⟩,hk,hq⟩:=ht.h
  exact qI.ac (zRv c hk Q hq) ⟨⟨rfl,rfl,rfl,rfl,e0⟩,⟨rfl,rfl,rfl,rfl,e1⟩,⟨rfl,rfl,rfl,rfl,e2⟩,⟨rfl,rfl,rfl,rfl,e3⟩,trivial⟩
 ·cases hc
noncomputable def K45:Con Tryz.prog:=K44.add 8 gCc zJm
end Go.Proofs.YtlmjdcbhpffanaaGreat
/- The queries of a cone. -/
namespace Go.Pl
open Go.Sx
def qSb(ns:List Nd)(pl:List Int):List Nd:=pl.map fun i=>gN ns i.toNat
def yZ(c:Cir)(x:Int):List (Int×Int×Int):=qsN [] (qSb c.nodes (zL c.nodes x))
theorem qVp(l:List Nd)(root:Int):∀ x∈zL l root,0≤x∧x<(l.length:Int):=by
 intro x hx
 have hne:zL l root≠[]:=fun h=>by rw[h] at hx; cases hx
 obtain⟨ho,h0,h1⟩:=zAp hne
 rw[zHt ho h0 h1,List.mem_map] at hx
 obtain⟨i,hi,rfl⟩:=hx
 rw[List.mem_filter,List.mem_range] at hi
 omega
theorem qSm{l:List Int}{k:Nat}(h:k<l.length):l.take (k+1)=l.take k++[gI l k]:=by
 rw[List.take_add_one,List.getElem?_eq_getElem h,gI,List.getD_eq_getElem?_getD,List.getElem?_eq_getElem h]
 rfl
theorem qPg{ns:List Nd}{pl:List Int}{k:Nat}(h:k<pl.length):qSb ns (pl.take (k+1))=qSb ns (pl.take k)++[gN ns (gI pl k).toNat]:=by
 rw[qSm h,qSb,List.map_append]; rfl
theorem qAs(ns:List Nd)(pl:List Int):(qSb ns pl).length=pl.length:=by rw[qSb,List.length_map]
end Go.Pl
namespace Go.Proofs.YtlmjdcbhpffanaaGreat
open Go.Sx Go.Pl
set_option linter.unusedVariables false
set_option maxRecDepth 100000
theorem zWj(b0 b1 b2 b3:Bool)(c:Cir)(x:Int)(K:List It→St→Prop)(R:SV→List HO→Prop):W (xwp Tryz.prog X K45 [] 60 (qO Tryz.f93 [] [⟨[0,1,0,1,1,1],[7,6,5,2],[]⟩]) [] [.at []] ⟨qQ 0 [.agg [.v (.int .i64 c.fx),.v (.int .i64 c.ad),.v (.int .i64 c.ins),.x 0 [],.x 1 [],.x 2 [],.x 3 []],.v (.int .i64 x)],[.ext b0 (.s false 7 c.nodes.length (cN c.nodes)),.ext b1 (.s false 1 c.gates.length (cI c.gates)),.ext b2 (.s false 2 c.looks.length (cL c.looks)),.ext b3 (.s false 2 c.eqs.length (cK c.eqs))]⟩ K R)=W (∃(l:List Nd),List.length c.4=List.length l∧IsC c.4.length 7 (cN c.4) (cN l)∧List.length l≤4000000000000∧K [.at [0,1,0,1,1,1],.blk 0,.at [1,1,1,1]] (St.mk [(7,.v (qA 0)),(6,.o 0),(5,.o 1),(2,.p 2 0)] [.rowc 109 7 0 (.lit 7 []),.rowc 3 1 (List.length (zL l x)) (.fn (cI (zL l x))),.cells [.v (qA c.1),.v (qA c.2),.v (qA c.3),.x 3 [],.x 4 [],.x 5 [],.x 6 []] 27,.ext b0 (.s false 7 c.4.length (cN c.4)),.ext b1 (.s false 1 c.5.length (cI c.5)),.ext b2 (.s false 2 c.6.length (cL c.6)),.ext b3 (.s false 2 c.7.length (cK c.7))])):=by kernel_rfl
theorem zRl(b0 b1 b2 b3:Bool)(c:Cir)(pl:List Int)(ls:List Nd)(m k M:Nat)(K:List It→St→Prop)(R:SV→List HO→Prop):W (xwp Tryz.prog X K45 [] 60 (qO Tryz.f93 [] [⟨[0,1,0,1,1,1],[7,6,5,2],[]⟩]) [] (.at [0,0,1,0,1,1,1]::.rnd [0,0,1,0,1,1,1] M::[.blk 0,.at [1,1,1,1]]) ⟨[(7,.v (.int .i64 (k:Int))),(6,.o 0),(5,.o 1),(2,.p 2 0)],[.rowc 109 7 m (.fn (cN ls)),.rowc 3 1 pl.length (.fn (cI pl)),.cells [.v (.int .i64 c.fx),.v (.int .i64 c.ad),.v (.int .i64 c.ins),.x 3 [],.x 4 [],.x 5 [],.x 6 []] 27,.ext b0 (.s false 7 c.nodes.length (cN c.nodes)),.ext b1 (.s false 1 c.gates.length (cI c.gates)),.ext b2 (.s false 2 c.looks.length (cL c.looks)),.ext b3 (.s false 2 c.eqs.length (cK c.eqs))]⟩ K R)=W (bif decide ((↑k:Int)<(↑pl.length:Int)) then(∀ M:Mem,(0:Int)≤(↑k:Int)∧(↑k:Int)<(↑pl.length:Int))∧(∀ M:Mem,k<List.length pl)∧(∀ M:Mem,(0:Int)≤gI pl k∧gI pl k<(↑c.4.length:Int))∧(∀ M:Mem,Int.toNat (gI pl k)<List.length c.4)∧(∀ M:Mem,(m+1)*56≤140737488355328∧m+1≤140737488355328)∧K [.rnd [0,0,1,0,1,1,1] M,.blk 0,.at [1,1,1,1]] (St.mk [(7,.v (qA (IntKind.wrap .i64 ((↑k:Int)+(1:Int))))),(6,.o 0),(5,.o 1),(2,.p 2 0)] [.rowc 109 7 (m+1) (.app m (.fn (cN ls)) (.lit 7 [.v (qA (gN c.4 (Int.toNat (gI pl k))).1),.v (qA (gN c.4 (Int.toNat (gI pl k))).2),.v (qA (gN c.4 (Int.toNat (gI pl k))).3),.v (qE (↑(qF (gN c.4 (Int.toNat (gI pl k))).4 0):Int)),.v (qE (↑(qF (gN c.4 (Int.toNat (gI pl k))).4 1):Int)),.v (qE (↑(qF (gN c.4 (Int.toNat (gI pl k))).4 2):Int)),.v (qE (↑(qF (gN c.4 (Int.toNat (gI pl k))).4 3):Int))])),.rowc 3 1 pl.length (.fn (cI pl)),.cells [.v (qA c.1),.v (qA c.2),.v (qA c.3),.x 3 [],.x 4 [],.x 5 [],.x 6 []] 27,.ext b0 (.s false 7 c.4.length (cN c.4)),.ext b1 (.s false 1 c.5.length (cI c.5)),.ext b2 (.s false 2 c.6.length (cL c.6)),.ext b3 (.s false 2 c.7.length (cK c.7))]) else ∃(l:List Nd),m=List.length l∧IsC m 7 (cN ls) (cN l)∧List.length l≤4000000000000∧R (.o 0) [.rowc 156 3 (List.length (qsN [] l)) (.fn (cQ (qsN [] l)))]):=by kernel_rfl
theorem zXi(b0 b1 b2 b3:Bool)(c:Cir)(x:Int)(K:List It→St→Prop)(R:SV→List HO→Prop):W (xwp Tryz.prog X K45 [] 60 (qO Tryz.f88 [] [⟨[0,1,0,1,1],[13,12,11,5,2],[(5,109,7)]⟩]) [] [.at []] ⟨qQ 0 [.agg [.v (.int .i64 c.fx),.v (.int .i64 c.ad),.v (.int .i64 c.ins),.x 0 [],.x 1 [],.x 2 [],.x 3 []],.v (.int .i64 x)],[.ext b0 (.s false 7 c.nodes.length (cN c.nodes)),.ext b1 (.s false 1 c.gates.length (cI c.gates)),.ext b2 (.s false 2 c.looks.length (cL c.looks)),.ext b3 (.s false 2 c.eqs.length (cK c.eqs))]⟩ K R)=W (∃(l:List Nd),List.length c.4=List.length l∧IsC c.4.length 7 (cN c.4) (cN l)∧List.length l≤2513169434916∧K [.at [0,1,0,1,1],.blk 0,.at [1,1,1]] (St.mk [(13,.v (qA 0)),(12,.v (qA (↑(List.length (zL l x)):Int))),(11,.o 0),(5,.o 1),(2,.p 2 0)] [.rowc 3 1 (List.length (zL l x)) (.fn (cI (zL l x))),.rowc 109 7 0 (.lit 1 []),.cells [.v (qA c.1),.v (qA c.2),.v (qA c.3),.x 3 [],.x 4 [],.x 5 [],.x 6 []] 27,.ext b0 (.s false 7 c.4.length (cN c.4)),.ext b1 (.s false 1 c.5.length (cI c.5)),.ext b2 (.s false 2 c.6.length (cL c.6)),.ext b3 (.s false 2 c.7.length (cK c.7))])):=by kernel_rfl
theorem zRt(b0 b1 b2 b3:Bool)(c:Cir)(pl:List Int)(ls:List Nd)(m k M:Nat)(K:List It→St→Prop)(R:SV→List HO→Prop):W (xwp Tryz.prog X K45 [] 60 (qO Tryz.f88 [] [⟨[0,1,0,1,1],[13,12,11,5,2],[(5,109,7)]⟩]) [] (.at [0,0,1,0,1,1]::.rnd [0,0,1,0,1,1] M::[.blk 0,.at [1,1,1]]) ⟨[(13,.v (.int .i64 (k:Int))),(12,.v (.int .i64 (pl.length:Int))),(11,.o 0),(5,.o 1),(2,.p 2 0)],[.rowc 3 1 pl.length (.fn (cI pl)),.rowc 109 7 m (.fn (cN ls)),.cells [.v (.int .i64 c.fx),.v (.int .i64 c.ad),.v (.int .i64 c.ins),.x 3 [],.x 4 [],.x 5 [],.x 6 []] 27,.ext b0 (.s false 7 c.nodes.length (cN c.nodes)),.ext b1 (.s false 1 c.gates.length (cI c.gates)),.ext b2 (.s false 2 c.looks.length (cL c.looks)),.ext b3 (.s false 2 c.eqs.length (cK c.eqs))]⟩ K R)=W (bif decide ((↑k:Int)<(↑pl.length:Int)) then(∀ M:Mem,(0:Int)≤(↑k:Int)∧(↑k:Int)<(↑pl.length:Int))∧(∀ M:Mem,k<List.length pl)∧(∀ M:Mem,(0:Int)≤gI pl k∧gI pl k<(↑c.4.length:Int))∧(∀ M:Mem,Int.toNat (gI pl k)<List.length c.4)∧(∀ M:Mem,(m+1)*56≤140737488355328∧m+1≤140737488355328)∧K [.rnd [0,0,1,0,1,1] M,.blk 0,.at [1,1,1]] (St.mk [(13,.v (qA (IntKind.wrap .i64 ((↑k:Int)+(1:Int))))),(12,.v (qA (↑pl.length:Int))),(11,.o 0),(5,.o 1),(2,.p 2 0)] [.rowc 3 1 pl.length (.fn (cI pl)),.rowc 109 7 (m+1) (.app m (.fn (cN ls)) (.lit 7 [.v (qA (gN c.4 (Int.toNat (gI pl k))).1),.v (qA (gN c.4 (Int.toNat (gI pl k))).2),.v (qA (gN c.4 (Int.toNat (gI pl k))).3),.v (qE (↑(qF (gN c.4 (Int.toNat (gI pl k))).4 0):Int)),.v (qE (↑(qF (gN c.4 (Int.toNat (gI pl k))).4 1):Int)),.v (qE (↑(qF (gN c.4 (Int.toNat (gI pl k))).4 2):Int)),.v (qE (↑(qF (gN c.4 (Int.toNat (gI pl k))).4 3):Int))])),.cells [.v (qA c.1),.v (qA c.2),.v (qA c.3),.x 3 [],.x 4 [],.x 5 [],.x 6 []] 27,.ext b0 (.s false 7 c.4.length (cN c.4)),.ext b1 (.s false 1 c.5.length (cI c.5)),.ext b2 (.s false 2 c.6.length (cL c.6)),.ext b3 (.s false 2 c.7.length (cK c.7))]) else ∃(l:List Nd),m=List.length l∧IsC m 7 (cN ls) (cN l)∧List.length l≤4000000000000∧R (.o 0) [.rowc 156 3 (List.length (qsN [] l)) (.fn (cQ (qsN [] l)))]):=by kernel_rfl
theorem qVt(b0 b1 b2 b3:Bool)(c:Cir)(hc:c.ok)(x:Int)(pl:List Int)(hp:pl=zL c.nodes x)(Q:SV→List HO→Prop)(hq:Q (.o 0) [.rowc 156 3 (yZ c x).length (.fn (cQ (yZ c x)))]):∀(d k:Nat) (ls:List Nd),k+d=pl.length→ls=qSb c.nodes (pl.take k) →
  FOk Tryz.prog Tryz.f93 Q (.rnd [0,0,1,0,1,1,1] (d+1)::[.blk 0,.at [1,1,1,1]]) ⟨[(7,.v (.int .i64 (k:Int))),(6,.o 0),(5,.o 1),(2,.p 2 0)],[.rowc 109 7 k (.fn (cN ls)),.rowc 3 1 pl.length (.fn (cI pl)),.cells [.v (.int .i64 c.fx),.v (.int .i64 c.ad),.v (.int .i64 c.ins),.x 3 [],.x 4 [],.x 5 [],.x 6 []] 27,.ext b0 (.s false 7 c.nodes.length (cN c.nodes)),.ext b1 (.s false 1 c.gates.length (cI c.gates)),.ext b2 (.s false 2 c.looks.length (cL c.looks)),.ext b3 (.s false 2 c.eqs.length (cK c.eqs))]⟩
 | 0,k,ls,hd,he=>by
  have h1:=hc.n.2
  have h2:=qBr c.nodes x
  refine FOk.rnd (qC hm 60 ((zRl b0 b1 b2 b3 c pl ls k k 0 _ _).mpr ⟨?_⟩))
  rw[qD,if_neg (by omega)]
  rw[show k=pl.length by omega,List.take_length] at he
  refine⟨ls,by rw[he,qAs]; omega,IsC.refl _ _ _,by rw[he,qAs,hp]; omega,?_⟩
  rw[he,hp]
  exact hq
 | d+1,k,ls,hd,he=>by
  have hk:k<pl.length:=by omega
  have h1:=hc.n.2
  have h2:=qBr c.nodes x
  have hpl:pl.length≤c.nodes.length:=by rw[hp]; exact h2
  obtain⟨g1,g2⟩:=qVp c.nodes x (gI pl k) (by rw[← hp]; exact qAt hk)
  have hlen:ls.length=k:=by rw[he,qAs,List.length_take]; omega
  refine FOk.rnd (qC hm 60 ((zRl b0 b1 b2 b3 c pl ls k k (d+1) _ _).mpr ⟨?_⟩))
  rw[qD,if_pos (by omega),qK _ (by omega)]
  refine aI (aI (aI (aI (aI (?_)))))
  exact FOk.cv (qVt b0 b1 b2 b3 c hc x pl hp Q hq d (k+1) (ls++[gN c.nodes (gI pl k).toNat]) (by omega) (by rw[he,qPg hk])) ⟨⟨rfl,rfl,rfl,qZy _ _ hlen rfl⟩,HE.refl _,HE.refl _,HE.refl _,HE.refl _,HE.refl _,HE.refl _,trivial⟩
theorem zTz:Tryz.f93.body.isSome=true:=by kernel_rfl
theorem zWq(c:Cir)(x:Int):Nat.ble [(.agg [.v (.int .i64 c.fx),.v (.int .i64 c.ad),.v (.int .i64 c.ins),.x 0 [],.x 1 [],.x 2 [],.x 3 []]:SV),.v (.int .i64 x)].length Tryz.f93.ntmps=true:=by kernel_rfl
theorem zKs(b0 b1 b2 b3:Bool)(c:Cir)(hc:c.ok)(x:Int)(Q:SV→List HO→Prop)(hq:Q (.o 0) [.rowc 156 3 (yZ c x).length (.fn (cQ (yZ c x)))]):qI Tryz.prog 93 [.agg [.v (.int .i64 c.fx),.v (.int .i64 c.ad),.v (.int .i64 c.ins),.x 0 [],.x 1 [],.x 2 [],.x 3 []],.v (.int .i64 x)] [.ext b0 (.s false 7 c.nodes.length (cN c.nodes)),.ext b1 (.s false 1 c.gates.length (cI c.gates)),.ext b2 (.s false 2 c.looks.length (cL c.looks)),.ext b3 (.s false 2 c.eqs.length (cK c.eqs))] Q:=by
 refine qL Tryz.func93 zTz ?_ ?_
 ·exact zWq c x
 have h1:=hc.n.2
 refine qC hm 60 ((zWj b0 b1 b2 b3 c x _ _).mpr ⟨?_⟩)
 refine⟨c.nodes,rfl,IsC.refl _ _ _,by omega,?_⟩
 exact FOk.loop ((zL c.nodes x).length+1) (by kernel_rfl) (FOk.cv (qVt b0 b1 b2 b3 c hc x _ rfl Q hq (zL c.nodes x).length 0 [] (by omega) rfl) ⟨⟨rfl,rfl,rfl,fun k hk=>by omega⟩,HE.refl _,HE.refl _,HE.refl _,HE.refl _,HE.refl _,HE.refl _,trivial⟩)
noncomputable def zMk:List SV→List HO→Option ((SV→List HO→Prop)→Prop)
 | [.agg [.v (.int .i64 fx),.v (.int .i64 ad),.v (.int .i64 ins),.x 0 [],.x 1 [],.x 2 [],.x 3 []],.v (.int .i64 x)],[.ext _ (.s false 7 n0 c0),.ext _ (.s false 1 n1 c1),.ext _ (.s false 2 n2 c2),.ext _ (.s false 2 n3 c3)] =>
  some fun Q=>lC fx ad ins n0 n1 n2 n3 c0 c1 c2 c3 fun c=>Q (.o 0) [.rowc 156 3 (yZ c x).length (.fn (cQ (yZ c x)))]
 | _,_=>none
theorem zHy(args:List SV)(h:List HO)(tr:(SV→List HO→Prop)→Prop)(Q:SV→List HO→Prop)(hc:zMk args h=some tr)(ht:tr Q):qI Tryz.prog 93 args h Q:=by
 unfold zMk at hc
 split at hc
 ·simp only[sI] at hc
  subst hc
  obtain⟨c,rfl,rfl,rfl,⟨rfl,e0⟩,⟨rfl,e1⟩,⟨rfl,e2⟩,⟨rfl,e3⟩,hk,hq⟩:=ht.h
  exact qI.ac (zKs _ _ _ _ c hk _ Q hq) ⟨⟨rfl,rfl,rfl,rfl,e0⟩,⟨rfl,rfl,rfl,rfl,e1⟩,⟨rfl,rfl,rfl,rfl,e2⟩,⟨rfl,rfl,rfl,rfl,e3⟩,trivial⟩
 ·cases hc
theorem qVd(b0 b1 b2 b3:Bool)(c:Cir)(hc:c.ok)(x:Int)(pl:List Int)(hp:pl=zL c.nodes x)(Q:SV→List HO→Prop)(hq:Q (.o 0) [.rowc 156 3 (yZ c x).length (.fn (cQ (yZ c x)))]):∀(d k:Nat) (ls:List Nd),k+d=pl.length→ls=qSb c.nodes (pl.take k) →
  FOk Tryz.prog Tryz.f88 Q (.rnd [0,0,1,0,1,1] (d+1)::[.blk 0,.at [1,1,1]]) ⟨[(13,.v (.int .i64 (k:Int))),(12,.v (.int .i64 (pl.length:Int))),(11,.o 0),(5,.o 1),(2,.p 2 0)],[.rowc 3 1 pl.length (.fn (cI pl)),.rowc 109 7 k (.fn (cN ls)),.cells [.v (.int .i64 c.fx),.v (.int .i64 c.ad),.v (.int .i64 c.ins),.x 3 [],.x 4 [],.x 5 [],.x 6 []] 27,.ext b0 (.s false 7 c.nodes.length (cN c.nodes)),.ext b1 (.s false 1 c.gates.length (cI c.gates)),.ext b2 (.s false 2 c.looks.length (cL c.looks)),.ext b3 (.s false 2 c.eqs.length (cK c.eqs))]⟩
 | 0,k,ls,hd,he=>by
  have h1:=hc.n.2
  have h2:=qBr c.nodes x
  refine FOk.rnd (qC hm 60 ((zRt b0 b1 b2 b3 c pl ls k k 0 _ _).mpr ⟨?_⟩))
  rw[qD,if_neg (by omega)]
  rw[show k=pl.length by omega,List.take_length] at he
  refine⟨ls,by rw[he,qAs]; omega,IsC.refl _ _ _,by rw[he,qAs,hp]; omega,?_⟩
  rw[he,hp]
  exact hq
 | d+1,k,ls,hd,he=>by
  have hk:k<pl.length:=by omega
  have h1:=hc.n.2
  have h2:=qBr c.nodes x
  have hpl:pl.length≤c.nodes.length:=by rw[hp]; exact h2
  obtain⟨g1,g2⟩:=qVp c.nodes x (gI pl k) (by rw[← hp]; exact qAt hk)
  have hlen:ls.length=k:=by rw[he,qAs,List.length_take]; omega
  refine FOk.rnd (qC hm 60 ((zRt b0 b1 b2 b3 c pl ls k k (d+1) _ _).mpr ⟨?_⟩))
  rw[qD,if_pos (by omega),qK _ (by omega)]
  refine aI (aI (aI (aI (aI (?_)))))
  exact FOk.cv (qVd b0 b1 b2 b3 c hc x pl hp Q hq d (k+1) (ls++[gN c.nodes (gI pl k).toNat]) (by omega) (by rw[he,qPg hk])) ⟨HE.refl _,⟨rfl,rfl,rfl,qZy _ _ hlen rfl⟩,HE.refl _,HE.refl _,HE.refl _,HE.refl _,HE.refl _,trivial⟩
theorem zXn:Tryz.f88.body.isSome=true:=by kernel_rfl
theorem zYr(c:Cir)(x:Int):Nat.ble [(.agg [.v (.int .i64 c.fx),.v (.int .i64 c.ad),.v (.int .i64 c.ins),.x 0 [],.x 1 [],.x 2 [],.x 3 []]:SV),.v (.int .i64 x)].length Tryz.f88.ntmps=true:=by kernel_rfl
theorem zOu(b0 b1 b2 b3:Bool)(c:Cir)(hc:c.ok)(x:Int)(Q:SV→List HO→Prop)(hq:Q (.o 0) [.rowc 156 3 (yZ c x).length (.fn (cQ (yZ c x)))]):qI Tryz.prog 88 [.agg [.v (.int .i64 c.fx),.v (.int .i64 c.ad),.v (.int .i64 c.ins),.x 0 [],.x 1 [],.x 2 [],.x 3 []],.v (.int .i64 x)] [.ext b0 (.s false 7 c.nodes.length (cN c.nodes)),.ext b1 (.s false 1 c.gates.length (cI c.gates)),.ext b2 (.s false 2 c.looks.length (cL c.looks)),.ext b3 (.s false 2 c.eqs.length (cK c.eqs))] Q:=by
 refine qL Tryz.func88 zXn ?_ ?_
 ·exact zYr c x
 have h1:=hc.n.2
 refine qC hm 60 ((zXi b0 b1 b2 b3 c x _ _).mpr ⟨?_⟩)
 refine⟨c.nodes,rfl,IsC.refl _ _ _,by omega,?_⟩
 exact FOk.loop ((zL c.nodes x).length+1) (by kernel_rfl) (FOk.cv (qVd b0 b1 b2 b3 c hc x _ rfl Q hq (zL c.nodes x).length 0 [] (by omega) rfl) ⟨HE.refl _,⟨rfl,rfl,rfl,fun k hk=>by omega⟩,HE.refl _,HE.refl _,HE.refl _,HE.refl _,HE.refl _,trivial⟩)
noncomputable def zMt:List SV→List HO→Option ((SV→List HO→Prop)→Prop)
 | [.agg [.v (.int .i64 fx),.v (.int .i64 ad),.v (.int .i64 ins),.x 0 [],.x 1 [],.x 2 [],.x 3 []],.v (.int .i64 x)],[.ext _ (.s false 7 n0 c0),.ext _ (.s false 1 n1 c1),.ext _ (.s false 2 n2 c2),.ext _ (.s false 2 n3 c3)] =>
  some fun Q=>lC fx ad ins n0 n1 n2 n3 c0 c1 c2 c3 fun c=>Q (.o 0) [.rowc 156 3 (yZ c x).length (.fn (cQ (yZ c x)))]
 | _,_=>none
theorem zGt(args:List SV)(h:List HO)(tr:(SV→List HO→Prop)→Prop)(Q:SV→List HO→Prop)(hc:zMt args h=some tr)(ht:tr Q):qI Tryz.prog 88 args h Q:=by
 unfold zMt at hc
 split at hc
 ·simp only[sI] at hc
  subst hc
  obtain⟨c,rfl,rfl,rfl,⟨rfl,e0⟩,⟨rfl,e1⟩,⟨rfl,e2⟩,⟨rfl,e3⟩,hk,hq⟩:=ht.h
  exact qI.ac (zOu _ _ _ _ c hk _ Q hq) ⟨⟨rfl,rfl,rfl,rfl,e0⟩,⟨rfl,rfl,rfl,rfl,e1⟩,⟨rfl,rfl,rfl,rfl,e2⟩,⟨rfl,rfl,rfl,rfl,e3⟩,trivial⟩
 ·cases hc
noncomputable def K46:Con Tryz.prog:=(K45.add 93 zMk zHy).add 88 zMt zGt
end Go.Proofs.YtlmjdcbhpffanaaGreat
/- Cones without rotations. -/
namespace Go.Pl
open Go.Sx
def qLm(q:Int×Int×Int):Bool:=!(q.2.2==(0:Int))
def jM(c:Cir)(x:Int):Bool:=decide (0≤x∧x<(c.nodes.length:Int))&&!(yZ c x).any qLm
structure lQ (n:Nat) (c:Nat→Nat→qB) (k:List (Int×Int×Int)→Prop):Prop where
 h:∃ l:List (Int×Int×Int),n=l.length∧IsC n 3 c (cQ l)∧l.length≤4398046511104∧k l
theorem qOa(c:Cir)(x:Int):(yZ c x).length≤c.nodes.length:=by
 have h1:=qSf (qSb c.nodes (zL c.nodes x)) []
 have h2:=qBr c.nodes x
 rw[qAs,List.length_nil] at h1
 rw[yZ]
 omega
theorem zCk{p:Int×Int×Int→Bool}{l:List (Int×Int×Int)}{k:Nat}(h:k<l.length):(l.drop k).any p=(p (gQ l k)||(l.drop (k+1)).any p):=by
 rw[List.drop_eq_getElem_cons h,List.any_cons,gQ,List.getD_eq_getElem?_getD,List.getElem?_eq_getElem h]; rfl
end Go.Pl
namespace Go.Proofs.YtlmjdcbhpffanaaGreat
open Go.Sx Go.Pl
set_option linter.unusedVariables false
set_option maxRecDepth 100000
theorem rfR(b:Bool)(l:List (Int×Int×Int))(k M:Nat)(K:List It→St→Prop)(R:SV→List HO→Prop):W (xwp Tryz.prog X K46 [] 60 (qO Tryz.f77 [] [⟨[0,1,0,1,1,1],[6,5],[]⟩]) [] (.at [0,0,1,0,1,1,1]::.rnd [0,0,1,0,1,1,1] M::[.blk 0,.at [1,1,1,1]]) ⟨[(6,.v (.int .i64 (k:Int))),(5,.o 0)],[.rowc 156 3 l.length (.fn (cQ l))]⟩ K R)=W (bif decide ((↑k:Int)<(↑l.length:Int)) then(∀ M:Mem,(0:Int)≤(↑k:Int)∧(↑k:Int)<(↑l.length:Int))∧(∀ M:Mem,k<List.length l)∧(∀ M:Mem,k<List.length l)∧bif !(gQ l k).2.2==(0:Int) then R (.v (.bool false)) [] else K [.rnd [0,0,1,0,1,1,1] M,.blk 0,.at [1,1,1,1]] (St.mk [(6,.v (qA (IntKind.wrap .i64 ((↑k:Int)+(1:Int))))),(5,.o 0)] [.rowc 156 3 l.length (.fn (cQ l))]) else R (.v (.bool true)) []):=by kernel_rfl
theorem rfS(b0 b1 b2 b3:Bool)(c:Cir)(x:Int)(K:List It→St→Prop)(R:SV→List HO→Prop):W (xwp Tryz.prog X K46 [(76,[])] 60 (qO Tryz.f77 [] [⟨[0,1,0,1,1,1],[6,5],[]⟩]) [] [.at []] ⟨qQ 0 [.agg [.v (.int .i64 c.fx),.v (.int .i64 c.ad),.v (.int .i64 c.ins),.x 0 [],.x 1 [],.x 2 [],.x 3 []],.v (.int .i64 x)],[.ext b0 (.s false 7 c.nodes.length (cN c.nodes)),.ext b1 (.s false 1 c.gates.length (cI c.gates)),.ext b2 (.s false 2 c.looks.length (cL c.looks)),.ext b3 (.s false 2 c.eqs.length (cK c.eqs))]⟩ K R)=W (bif decide ((0:Int)≤x) then bif !decide (x<(↑c.4.length:Int)) then R (.v (.bool false)) [] else lC c.1 c.2 c.3 c.4.length c.5.length c.6.length c.7.length (cN c.4) (cI c.5) (cL c.6) (cK c.7) fun(c:Cir)=>K [.at [0,1,0,1,1,1],.blk 0,.at [1,1,1,1]] (St.mk [(6,.v (qA 0)),(5,.o 0)] [.rowc 156 3 (List.length (yZ c x)) (.fn (cQ (yZ c x)))]) else R (.v (.bool false)) []):=by kernel_rfl
theorem iqR(b:Bool)(l:List (Int×Int×Int))(k M:Nat)(K:List It→St→Prop)(R:SV→List HO→Prop):W (xwp Tryz.prog X K46 [(143,[])] 60 (qO Tryz.f148 [] [⟨[0,1,0,1],[8,7,0,1],[]⟩]) [] (.at [0,0,1,0,1]::.rnd [0,0,1,0,1] M::[.blk 0,.at [1,1]]) ⟨[(8,.v (.int .i64 (k:Int))),(7,.v (.int .i64 (l.length:Int))),(0,.x 0 []),(1,.fn (.func 143) [] [])],[.ext b (.s false 3 l.length (cQ l))]⟩ K R)=W (bif decide ((↑k:Int)<(↑l.length:Int)) then(∀ M:Mem,(0:Int)≤(↑k:Int)∧(↑k:Int)<(↑l.length:Int))∧(∀ M:Mem,k<List.length l)∧bif !(gQ l k).2.2==(0:Int) then R (.v (qA (↑k:Int))) [] else K [.rnd [0,0,1,0,1] M,.blk 0,.at [1,1]] (St.mk [(8,.v (qA (IntKind.wrap .i64 ((↑k:Int)+(1:Int))))),(7,.v (qA (↑l.length:Int))),(0,.x 0 []),(1,SV.fn (Fn.func 143) [] [])] [.ext b (.s false 3 l.length (cQ l))]) else R (.v (qA (-1))) []):=by kernel_rfl
theorem iqS(b:Bool)(l:List (Int×Int×Int))(K:List It→St→Prop)(R:SV→List HO→Prop):W (xwp Tryz.prog X K46 [(143,[])] 60 (qO Tryz.f148 [] [⟨[0,1,0,1],[8,7,0,1],[]⟩]) [] [.at []] ⟨qQ 0 [.x 0 [],.fn (.func 143) [] []],[.ext b (.s false 3 l.length (cQ l))]⟩ K R)=W (K [.at [0,1,0,1],.blk 0,.at [1,1]] (St.mk [(8,.v (qA 0)),(7,.v (qA (↑l.length:Int))),(0,.x 0 []),(1,SV.fn (Fn.func 143) [] [])] [.ext b (.s false 3 l.length (cQ l))])):=by kernel_rfl
theorem qZv(l:List (Int×Int×Int))(hb:l.length≤4398046511104)(Q:SV→List HO→Prop):∀(d k:Nat),k+d=l.length→Q (.v (.bool (!(l.drop k).any qLm))) [] →
  FOk Tryz.prog Tryz.f77 Q (.rnd [0,0,1,0,1,1,1] (d+1)::[.blk 0,.at [1,1,1,1]]) ⟨[(6,.v (.int .i64 (k:Int))),(5,.o 0)],[.rowc 156 3 l.length (.fn (cQ l))]⟩
 | 0,k,hd,hq=>by
  refine FOk.rnd (qC hm 60 ((rfR true l k 0 _ _).mpr ⟨?_⟩))
  rw[qD,if_neg (by omega)]
  rw[show k=l.length by omega,List.drop_length] at hq
  exact hq
 | d+1,k,hd,hq=>by
  have hk:k<l.length:=by omega
  refine FOk.rnd (qC hm 60 ((rfR true l k (d+1) _ _).mpr ⟨?_⟩))
  rw[qD,if_pos (by omega),qK _ (by omega)]
  rw[zCk hk] at hq
  refine aI (aI (aI (qJ (fun h=>?_) (fun h=>?_))))
  ·rw[qLm,h] at hq
   exact hq
  ·rw[qLm,h,Bool.false_or] at hq
   exact qZv l hb Q d (k+1) (by omega) hq
theorem bRf:Tryz.f77.body.isSome=true:=by kernel_rfl
theorem nRf(c:Cir)(x:Int):Nat.ble [(.agg [.v (.int .i64 c.fx),.v (.int .i64 c.ad),.v (.int .i64 c.ins),.x 0 [],.x 1 [],.x 2 [],.x 3 []]:SV),.v (.int .i64 x)].length Tryz.f77.ntmps=true:=by kernel_rfl
theorem zRe(b0 b1 b2 b3:Bool)(c:Cir)(hc:c.ok)(x:Int)(Q:SV→List HO→Prop)(hq:Q (.v (.bool (jM c x))) []):qI Tryz.prog 77 [.agg [.v (.int .i64 c.fx),.v (.int .i64 c.ad),.v (.int .i64 c.ins),.x 0 [],.x 1 [],.x 2 [],.x 3 []],.v (.int .i64 x)] [.ext b0 (.s false 7 c.nodes.length (cN c.nodes)),.ext b1 (.s false 1 c.gates.length (cI c.gates)),.ext b2 (.s false 2 c.looks.length (cL c.looks)),.ext b3 (.s false 2 c.eqs.length (cK c.eqs))] Q:=by
 refine qL Tryz.func77 bRf ?_ ?_
 ·exact nRf c x
 have h1:=hc.n.2
 have h2:=qOa c x
 refine qC hm 60 ((rfS b0 b1 b2 b3 c x _ _).mpr ⟨?_⟩)
 simp only[qD,qV]
 refine qG (fun h=>qG (fun h3=>?_) (fun h3=>?_)) (fun h=>?_)
 ·refine qBt c hc ?_
  rw[jM,decide_eq_true ⟨h,h3⟩,Bool.true_and] at hq
  exact FOk.loop ((yZ c x).length+1) (by kernel_rfl) (qZv (yZ c x) (by omega) Q (yZ c x).length 0 (by omega) hq)
 ·rw[jM,decide_eq_false (fun hh=>h3 hh.2)] at hq
  exact hq
 ·rw[jM,decide_eq_false (fun hh=>h hh.1)] at hq
  exact hq
noncomputable def gRf:List SV→List HO→Option ((SV→List HO→Prop)→Prop)
 | [.agg [.v (.int .i64 fx),.v (.int .i64 ad),.v (.int .i64 ins),.x 0 [],.x 1 [],.x 2 [],.x 3 []],.v (.int .i64 x)],[.ext _ (.s false 7 n0 c0),.ext _ (.s false 1 n1 c1),.ext _ (.s false 2 n2 c2),.ext _ (.s false 2 n3 c3)] =>
  some fun Q=>lC fx ad ins n0 n1 n2 n3 c0 c1 c2 c3 fun c=>Q (.v (.bool (jM c x))) []
 | _,_=>none
theorem zOe(args:List SV)(h:List HO)(tr:(SV→List HO→Prop)→Prop)(Q:SV→List HO→Prop)(hc:gRf args h=some tr)(ht:tr Q):qI Tryz.prog 77 args h Q:=by
 unfold gRf at hc
 split at hc
 ·simp only[sI] at hc
  subst hc
  obtain⟨c,rfl,rfl,rfl,⟨rfl,e0⟩,⟨rfl,e1⟩,⟨rfl,e2⟩,⟨rfl,e3⟩,hk,hq⟩:=ht.h
  exact qI.ac (zRe _ _ _ _ c hk _ Q hq) ⟨⟨rfl,rfl,rfl,rfl,e0⟩,⟨rfl,rfl,rfl,rfl,e1⟩,⟨rfl,rfl,rfl,rfl,e2⟩,⟨rfl,rfl,rfl,rfl,e3⟩,trivial⟩
 ·cases hc
theorem qZl(b:Bool)(l:List (Int×Int×Int))(hb:l.length≤4398046511104)(Q:SV→List HO→Prop):∀(d k:Nat),k+d=l.length→Q (.v (.int .i64 (zB qLm k (l.drop k)))) [] →
  FOk Tryz.prog Tryz.f148 Q (.rnd [0,0,1,0,1] (d+1)::[.blk 0,.at [1,1]]) ⟨[(8,.v (.int .i64 (k:Int))),(7,.v (.int .i64 (l.length:Int))),(0,.x 0 []),(1,.fn (.func 143) [] [])],[.ext b (.s false 3 l.length (cQ l))]⟩
 | 0,k,hd,hq=>by
  refine FOk.rnd (qC hm 60 ((iqR b l k 0 _ _).mpr ⟨?_⟩))
  rw[qD,if_neg (by omega)]
  rw[show k=l.length by omega,List.drop_length] at hq
  exact hq
 | d+1,k,hd,hq=>by
  have hk:k<l.length:=by omega
  refine FOk.rnd (qC hm 60 ((iqR b l k (d+1) _ _).mpr ⟨?_⟩))
  rw[qD,if_pos (by omega),qK _ (by omega)]
  rw[qHr hk] at hq
  refine aI (aI (qJ (fun h=>?_) (fun h=>?_)))
  ·rw[if_pos (show qLm (gQ l k)=true from h)] at hq
   exact hq
  ·rw[if_neg (show ¬ qLm (gQ l k)=true by rw[qLm,h]; decide)] at hq
   exact qZl b l hb Q d (k+1) (by omega) hq
theorem bIq:Tryz.f148.body.isSome=true:=by kernel_rfl
theorem nIq:Nat.ble [SV.x 0 [],.fn (.func 143) [] []].length Tryz.f148.ntmps=true:=by kernel_rfl
theorem zSz(b:Bool)(l:List (Int×Int×Int))(hb:l.length≤4398046511104)(Q:SV→List HO→Prop)(hq:Q (.v (.int .i64 (zB qLm 0 l))) []):qI Tryz.prog 148 [.x 0 [],.fn (.func 143) [] []] [.ext b (.s false 3 l.length (cQ l))] Q:=by
 refine qL Tryz.func148 bIq ?_ ?_
 ·exact nIq
 refine qC hm 60 ((iqS b l _ _).mpr ⟨?_⟩)
 exact FOk.loop (l.length+1) (by kernel_rfl) (qZl b l hb Q l.length 0 (by omega) hq)
noncomputable def gIq:List SV→List HO→Option ((SV→List HO→Prop)→Prop)
 | [.x 0 [],.fn (.func 143) [] []],[.ext _ (.s false 3 n c)]=>some fun Q=>lQ n c fun l=>Q (.v (.int .i64 (zB qLm 0 l))) []
 | _,_=>none
theorem zPh(args:List SV)(h:List HO)(tr:(SV→List HO→Prop)→Prop)(Q:SV→List HO→Prop)(hc:gIq args h=some tr)(ht:tr Q):qI Tryz.prog 148 args h Q:=by
 unfold gIq at hc
 split at hc
 ·simp only[sI] at hc
  subst hc
  obtain⟨l,rfl,he,hb,hq⟩:=ht.h
  exact qI.ac (zSz _ l hb Q hq) ⟨⟨rfl,rfl,rfl,rfl,he⟩,trivial⟩
 ·cases hc
noncomputable def K47:Con Tryz.prog:=(K46.add 77 gRf zOe).add 148 gIq zPh
end Go.Proofs.YtlmjdcbhpffanaaGreat
/- The checker: flat, counts. -/
namespace Go.Pl
open Go.Sx
structure lH (fx ad ins:Int) (n0 n1 n2 n3 n4:Nat) (c0 c1 c2 c3 c4:Nat→Nat→qB) (k:Cir→List Int→Prop):Prop where
 h:∃(c:Cir) (dg:List Int),fx=c.fx∧ad=c.ad∧ins=c.ins∧(n0=c.nodes.length∧IsC n0 7 c0 (cN c.nodes))∧(n1=c.gates.length∧IsC n1 1 c1 (cI c.gates))∧(n2=c.looks.length∧IsC n2 2 c2 (cL c.looks))∧(n3=c.eqs.length∧IsC n3 2 c3 (cK c.eqs))∧(n4=dg.length∧IsC n4 1 c4 (cI dg))∧c.ok∧k c dg
theorem qGn(c:Cir)(dg:List Int)(hc:c.ok){k:Cir→List Int→Prop}(h:k c dg):lH c.fx c.ad c.ins c.nodes.length c.gates.length c.looks.length c.eqs.length dg.length (cN c.nodes) (cI c.gates) (cL c.looks) (cK c.eqs) (cI dg) k :=
 ⟨⟨c,dg,rfl,rfl,rfl,⟨rfl,IsC.refl _ _ _⟩,⟨rfl,IsC.refl _ _ _⟩,⟨rfl,IsC.refl _ _ _⟩,⟨rfl,IsC.refl _ _ _⟩,⟨rfl,IsC.refl _ _ _⟩,hc,h⟩⟩
noncomputable def jV(c:Cir)(dg:List Int)(j:Nat):qB :=
 match j with
 | 0=>.v (.int .i64 c.fx)
 | 1=>.v (.int .i64 c.ad)
 | 2=>.v (.int .i64 c.ins)
 | 3=>.s false 7 c.nodes.length (cN c.nodes)
 | 4=>.s false 1 c.gates.length (cI c.gates)
 | 5=>.s false 2 c.looks.length (cL c.looks)
 | 6=>.s false 2 c.eqs.length (cK c.eqs)
 | 7=>.s false 1 dg.length (cI dg)
 | _=>.v undef
def qHf(c:Cir):Prop:=(0≤c.fx∧c.fx≤8)∧(0≤c.ad∧c.ad≤8)∧(0≤c.ins∧c.ins≤8)∧0<c.ad∧c.gates.length≤16∧c.looks.length≤4∧c.eqs.length≤8
instance (c : Cir) : Decidable (qHf c) := by unfold qHf; exact inferInstance
def qIs(c:Cir):Bool:=decide (qHf c)
end Go.Pl
namespace Go.Proofs.YtlmjdcbhpffanaaGreat
open Go.Sx Go.Pl
set_option linter.unusedVariables false
set_option maxRecDepth 100000
theorem pfS(b0 b1 b2 b3 b4:Bool)(c:Cir)(dg:List Int)(x:Int)(K:List It→St→Prop)(R:SV→List HO→Prop):W (xwp Tryz.prog X K47 [(103,[]),(142,[])] 60 (qO Tryz.f132 [] []) [] [.at []] ⟨qQ 0 [.agg [.v (.int .i64 c.fx),.v (.int .i64 c.ad),.v (.int .i64 c.ins),.x 0 [],.x 1 [],.x 2 [],.x 3 [],.x 4 []],.v (.int .i64 x)],[.ext b0 (.s false 7 c.nodes.length (cN c.nodes)),.ext b1 (.s false 1 c.gates.length (cI c.gates)),.ext b2 (.s false 2 c.looks.length (cL c.looks)),.ext b3 (.s false 2 c.eqs.length (cK c.eqs)),.ext b4 (.s false 1 dg.length (cI dg))]⟩ K R)=W (bif decide ((0:Int)≤x) then bif decide (x<(↑c.4.length:Int)) then lC c.1 c.2 c.3 c.4.length c.5.length c.6.length c.7.length (cN c.4) (cI c.5) (cL c.6) (cK c.7) fun(c:Cir)=>lQ (List.length (yZ c x)) (cQ (yZ c x)) fun(l:List (Int×Int×Int))=>R (.v (.bool !decide ((0:Int)≤zB qLm 0 l))) [] else R (.v (.bool false)) [] else R (.v (.bool false)) []):=by kernel_rfl
theorem ctS(b0 b1 b2 b3 b4:Bool)(c:Cir)(dg:List Int)(K:List It→St→Prop)(R:SV→List HO→Prop):W (xwp Tryz.prog X K47 [] 60 (qO Tryz.f100 [([0,1,0,1],4)] []) [] [.at []] ⟨qQ 0 [.agg [.v (.int .i64 c.fx),.v (.int .i64 c.ad),.v (.int .i64 c.ins),.x 0 [],.x 1 [],.x 2 [],.x 3 [],.x 4 []]],[.ext b0 (.s false 7 c.nodes.length (cN c.nodes)),.ext b1 (.s false 1 c.gates.length (cI c.gates)),.ext b2 (.s false 2 c.looks.length (cL c.looks)),.ext b3 (.s false 2 c.eqs.length (cK c.eqs)),.ext b4 (.s false 1 dg.length (cI dg))]⟩ K R)=W ((∀ M:Mem,(0:Int)≤(0:Int)∧(0:Int)<(3:Int))∧bif decide (c.1<(0:Int)) then R (.v (.bool false)) [] else bif decide ((8:Int)<c.1) then R (.v (.bool false)) [] else(∀ M:Mem,(0:Int)≤(1:Int)∧(1:Int)<(3:Int))∧bif decide (c.2<(0:Int)) then R (.v (.bool false)) [] else bif decide ((8:Int)<c.2) then R (.v (.bool false)) [] else(∀ M:Mem,(0:Int)≤(2:Int)∧(2:Int)<(3:Int))∧bif decide (c.3<(0:Int)) then R (.v (.bool false)) [] else bif decide ((8:Int)<c.3) then R (.v (.bool false)) [] else bif decide ((0:Int)<c.2) then bif decide ((↑c.5.length:Int)≤(16:Int)) then bif decide ((↑c.6.length:Int)≤(4:Int)) then R (.v (.bool (decide ((↑c.7.length:Int)≤(8:Int))))) [] else R (.v (.bool false)) [] else R (.v (.bool false)) [] else R (.v (.bool false)) []):=by kernel_rfl
theorem bPf:Tryz.f132.body.isSome=true:=by kernel_rfl
theorem nPf(c:Cir)(x:Int):Nat.ble [(.agg [.v (.int .i64 c.fx),.v (.int .i64 c.ad),.v (.int .i64 c.ins),.x 0 [],.x 1 [],.x 2 [],.x 3 [],.x 4 []]:SV),.v (.int .i64 x)].length Tryz.f132.ntmps=true:=by kernel_rfl
theorem zQl(b0 b1 b2 b3 b4:Bool)(c:Cir)(dg:List Int)(hc:c.ok)(x:Int)(Q:SV→List HO→Prop)(hq:Q (.v (.bool (jM c x))) []):qI Tryz.prog 132 [.agg [.v (.int .i64 c.fx),.v (.int .i64 c.ad),.v (.int .i64 c.ins),.x 0 [],.x 1 [],.x 2 [],.x 3 [],.x 4 []],.v (.int .i64 x)] [.ext b0 (.s false 7 c.nodes.length (cN c.nodes)),.ext b1 (.s false 1 c.gates.length (cI c.gates)),.ext b2 (.s false 2 c.looks.length (cL c.looks)),.ext b3 (.s false 2 c.eqs.length (cK c.eqs)),.ext b4 (.s false 1 dg.length (cI dg))] Q:=by
 refine qL Tryz.func132 bPf ?_ ?_
 ·exact nPf c x
 have h1:=hc.n.2
 have h2:=qOa c x
 refine qC hm 60 ((pfS b0 b1 b2 b3 b4 c dg x _ _).mpr ⟨?_⟩)
 simp only[qD]
 refine qG (fun h=>qG (fun h3=>?_) (fun h3=>?_)) (fun h=>?_)
 ·refine qBt c hc ⟨⟨_,rfl,IsC.refl _ _ _,by omega,?_⟩⟩
  rw[jM,decide_eq_true ⟨h,h3⟩,Bool.true_and] at hq
  rw[jC]
  exact hq
 ·rw[jM,decide_eq_false (fun hh=>h3 hh.2)] at hq
  exact hq
 ·rw[jM,decide_eq_false (fun hh=>h hh.1)] at hq
  exact hq
noncomputable def gPf:List SV→List HO→Option ((SV→List HO→Prop)→Prop)
 | [.agg [.v (.int .i64 fx),.v (.int .i64 ad),.v (.int .i64 ins),.x 0 [],.x 1 [],.x 2 [],.x 3 [],.x 4 []],.v (.int .i64 x)],[.ext _ (.s false 7 n0 c0),.ext _ (.s false 1 n1 c1),.ext _ (.s false 2 n2 c2),.ext _ (.s false 2 n3 c3),.ext _ (.s false 1 n4 c4)]=>some fun Q=>lH fx ad ins n0 n1 n2 n3 n4 c0 c1 c2 c3 c4 fun c dg=>Q (.v (.bool (jM c x))) []
 | _,_=>none
theorem zNz(args:List SV)(h:List HO)(tr:(SV→List HO→Prop)→Prop)(Q:SV→List HO→Prop)(hc:gPf args h=some tr)(ht:tr Q):qI Tryz.prog 132 args h Q:=by
 unfold gPf at hc
 split at hc
 ·simp only[sI] at hc
  subst hc
  obtain⟨c,dg,rfl,rfl,rfl,⟨rfl,e0⟩,⟨rfl,e1⟩,⟨rfl,e2⟩,⟨rfl,e3⟩,⟨rfl,e4⟩,hk,hq⟩:=ht.h
  exact qI.ac (zQl _ _ _ _ _ c dg hk _ Q hq) ⟨⟨rfl,rfl,rfl,rfl,e0⟩,⟨rfl,rfl,rfl,rfl,e1⟩,⟨rfl,rfl,rfl,rfl,e2⟩,⟨rfl,rfl,rfl,rfl,e3⟩,⟨rfl,rfl,rfl,rfl,e4⟩,trivial⟩
 ·cases hc
theorem zWs:Tryz.f100.body.isSome=true:=by kernel_rfl
theorem zUw(c:Cir):Nat.ble [(.agg [.v (.int .i64 c.fx),.v (.int .i64 c.ad),.v (.int .i64 c.ins),.x 0 [],.x 1 [],.x 2 [],.x 3 [],.x 4 []]:SV)].length Tryz.f100.ntmps=true:=by kernel_rfl
theorem zQa(b0 b1 b2 b3 b4:Bool)(c:Cir)(dg:List Int)(hc:c.ok)(Q:SV→List HO→Prop)(hq:Q (.v (.bool (qIs c))) []):qI Tryz.prog 100 [.agg [.v (.int .i64 c.fx),.v (.int .i64 c.ad),.v (.int .i64 c.ins),.x 0 [],.x 1 [],.x 2 [],.x 3 [],.x 4 []]] [.ext b0 (.s false 7 c.nodes.length (cN c.nodes)),.ext b1 (.s false 1 c.gates.length (cI c.gates)),.ext b2 (.s false 2 c.looks.length (cL c.looks)),.ext b3 (.s false 2 c.eqs.length (cK c.eqs)),.ext b4 (.s false 1 dg.length (cI dg))] Q:=by
  refine qL Tryz.func100 zWs ?_ ?_
  · exact zUw c
  refine qC hm 60 ((ctS b0 b1 b2 b3 b4 c dg _ _).mpr ⟨?_⟩)
  have yes:qHf c→Q (.v (.bool true)) []:=fun h=>by rw[qIs,decide_eq_true h] at hq; exact hq
  have no:¬ qHf c→Q (.v (.bool false)) []:=fun h=>by rw[qIs,decide_eq_false h] at hq; exact hq
  unfold qHf at yes no
  simp only[qD]
  clear hc hq
  repeat' (first | refine And.intro (fun _=>by omega) ?_ | refine qG (fun _=>?_) (fun _=>?_))
  all_goals first
    | (refine no (fun h=>?_); omega)
    | (by_cases hh:(c.eqs.length:Int)≤8
       · rw[decide_eq_true hh]; refine yes ?_; omega
       · rw[decide_eq_false hh]; refine no (fun h=>?_); omega)
noncomputable def gCt:List SV→List HO→Option ((SV→List HO→Prop)→Prop)
 | [.agg [.v (.int .i64 fx),.v (.int .i64 ad),.v (.int .i64 ins),.x 0 [],.x 1 [],.x 2 [],.x 3 [],.x 4 []]],[.ext _ (.s false 7 n0 c0),.ext _ (.s false 1 n1 c1),.ext _ (.s false 2 n2 c2),.ext _ (.s false 2 n3 c3),.ext _ (.s false 1 n4 c4)]=>some fun Q=>lH fx ad ins n0 n1 n2 n3 n4 c0 c1 c2 c3 c4 fun c dg=>Q (.v (.bool (qIs c))) []
 | _,_=>none
theorem zNh(args:List SV)(h:List HO)(tr:(SV→List HO→Prop)→Prop)(Q:SV→List HO→Prop)(hc:gCt args h=some tr)(ht:tr Q):qI Tryz.prog 100 args h Q:=by
 unfold gCt at hc
 split at hc
 ·simp only[sI] at hc
  subst hc
  obtain⟨c,dg,rfl,rfl,rfl,⟨rfl,e0⟩,⟨rfl,e1⟩,⟨rfl,e2⟩,⟨rfl,e3⟩,⟨rfl,e4⟩,hk,hq⟩:=ht.h
  exact qI.ac (zQa _ _ _ _ _ c dg hk Q hq) ⟨⟨rfl,rfl,rfl,rfl,e0⟩,⟨rfl,rfl,rfl,rfl,e1⟩,⟨rfl,rfl,rfl,rfl,e2⟩,⟨rfl,rfl,rfl,rfl,e3⟩,⟨rfl,rfl,rfl,rfl,e4⟩,trivial⟩
 ·cases hc
noncomputable def K48:Con Tryz.prog:=(K47.add 132 gPf zNz).add 100 gCt zNh
end Go.Proofs.YtlmjdcbhpffanaaGreat
/- The checker: the greatest degree; the first place that is wrong. -/
namespace Go.Pl
open Go.Sx
def gtN(dg l:List Int):Int:=l.foldl (fun m g=>if m<gI dg g.toNat then gI dg g.toNat else m) 0
structure lG (dn n:Nat) (c:Nat→Nat→qB) (k:List Int→Prop):Prop where
 h:∃ l:List Int,n=l.length∧IsC n 1 c (cI l)∧l.length≤17592186043904∧(∀ g∈l,0≤g∧g<(dn:Int))∧k l
structure lKc (ck:Nat→Nat→qB) (k:Cir→List Int→Prop):Prop where
 h:∃(c:Cir) (dg:List Int),IsC 1 8 ck (fun _ j=>jV c dg j)∧c.ok∧k c dg
def yJ(c:Cir)(x:Int):Bool:=decide (0≤x∧x<(c.nodes.length:Int))
theorem qKa{p:Int→Bool}{l:List Int}{k:Nat}(h:k<l.length):zB p k (l.drop k)=if p (gI l k) then(k:Int) else zB p (k+1) (l.drop (k+1)):=by
 rw[List.drop_eq_getElem_cons h,zB,gI,List.getD_eq_getElem?_getD,List.getElem?_eq_getElem h]; rfl
theorem qHb{dg l:List Int}{k:Nat}(h:k<l.length):gtN dg (l.take (k+1))=if gtN dg (l.take k)<gI dg (gI l k).toNat then gI dg (gI l k).toNat else gtN dg (l.take k):=by
 rw[qSm h,gtN,List.foldl_append]; rfl
end Go.Pl
namespace Go.Proofs.YtlmjdcbhpffanaaGreat
open Go.Sx Go.Pl
set_option linter.unusedVariables false
set_option maxRecDepth 100000
theorem gtS(b0 b1 b2 b3 b4:Bool)(c:Cir)(dg:List Int)(b5:Bool)(l:List Int)(K:List It→St→Prop)(R:SV→List HO→Prop):W (xwp Tryz.prog X K48 [] 60 (qO Tryz.f133 [] [⟨[0,1,0,1,1],[10,9,8,5,2],[]⟩]) [] [.at []] ⟨qQ 0 [.agg [.v (.int .i64 c.fx),.v (.int .i64 c.ad),.v (.int .i64 c.ins),.x 0 [],.x 1 [],.x 2 [],.x 3 [],.x 4 []],.x 5 []],[.ext b0 (.s false 7 c.nodes.length (cN c.nodes)),.ext b1 (.s false 1 c.gates.length (cI c.gates)),.ext b2 (.s false 2 c.looks.length (cL c.looks)),.ext b3 (.s false 2 c.eqs.length (cK c.eqs)),.ext b4 (.s false 1 dg.length (cI dg)),.ext b5 (.s false 1 l.length (cI l))]⟩ K R)=W (K [.at [0,1,0,1,1],.blk 0,.at [1,1,1]] (St.mk [(10,.v (qA 0)),(9,.v (qA (↑l.length:Int))),(8,.x 0 []),(5,.v (qA 0)),(2,.p 1 0)] [.ext b5 (.s false 1 l.length (cI l)),.cells [.v (qA c.1),.v (qA c.2),.v (qA c.3),.x 2 [],.x 3 [],.x 4 [],.x 5 [],.x 6 []] 171,.ext b0 (.s false 7 c.4.length (cN c.4)),.ext b1 (.s false 1 c.5.length (cI c.5)),.ext b2 (.s false 2 c.6.length (cL c.6)),.ext b3 (.s false 2 c.7.length (cK c.7)),.ext b4 (.s false 1 dg.length (cI dg))])):=by kernel_rfl
theorem gtR(b0 b1 b2 b3 b4:Bool)(c:Cir)(dg:List Int)(b5:Bool)(l:List Int)(m:Int)(k M:Nat)(K:List It→St→Prop)(R:SV→List HO→Prop):W (xwp Tryz.prog X K48 [] 60 (qO Tryz.f133 [] [⟨[0,1,0,1,1],[10,9,8,5,2],[]⟩]) [] (.at [0,0,1,0,1,1]::.rnd [0,0,1,0,1,1] M::[.blk 0,.at [1,1,1]]) ⟨[(10,.v (.int .i64 (k:Int))),(9,.v (.int .i64 (l.length:Int))),(8,.x 0 []),(5,.v (.int .i64 m)),(2,.p 1 0)],[.ext b5 (.s false 1 l.length (cI l)),.cells [.v (.int .i64 c.fx),.v (.int .i64 c.ad),.v (.int .i64 c.ins),.x 2 [],.x 3 [],.x 4 [],.x 5 [],.x 6 []] 171,.ext b0 (.s false 7 c.nodes.length (cN c.nodes)),.ext b1 (.s false 1 c.gates.length (cI c.gates)),.ext b2 (.s false 2 c.looks.length (cL c.looks)),.ext b3 (.s false 2 c.eqs.length (cK c.eqs)),.ext b4 (.s false 1 dg.length (cI dg))]⟩ K R)=W (bif decide ((↑k:Int)<(↑l.length:Int)) then(∀ M:Mem,(0:Int)≤(↑k:Int)∧(↑k:Int)<(↑l.length:Int))∧(∀ M:Mem,k<List.length l)∧(∀ M:Mem,(0:Int)≤gI l k∧gI l k<(↑dg.length:Int))∧(∀ M:Mem,Int.toNat (gI l k)<List.length dg)∧K [.rnd [0,0,1,0,1,1] M,.blk 0,.at [1,1,1]] (St.mk [(10,.v (qA (IntKind.wrap .i64 ((↑k:Int)+(1:Int))))),(9,.v (qA (↑l.length:Int))),(8,.x 0 []),(5,.v (qA (if m<gI dg (Int.toNat (gI l k)) then gI dg (Int.toNat (gI l k)) else m))),(2,.p 1 0)] [.ext b5 (.s false 1 l.length (cI l)),.cells [.v (qA c.1),.v (qA c.2),.v (qA c.3),.x 2 [],.x 3 [],.x 4 [],.x 5 [],.x 6 []] 171,.ext b0 (.s false 7 c.4.length (cN c.4)),.ext b1 (.s false 1 c.5.length (cI c.5)),.ext b2 (.s false 2 c.6.length (cL c.6)),.ext b3 (.s false 2 c.7.length (cK c.7)),.ext b4 (.s false 1 dg.length (cI dg))]) else R (.v (qA m)) []):=by kernel_rfl
theorem ijS(b:Bool)(l:List Int)(c:Cir)(dg:List Int)(K:List It→St→Prop)(R:SV→List HO→Prop):W (xwp Tryz.prog X K48 [(102,[]),(103,[])] 60 (qO Tryz.f129 [] [⟨[0,1,0,1],[8,7,0,1],[]⟩]) [] [.at []] ⟨qQ 0 [.x 0 [],.fn (.func 102) [] [.x 1 []]],[.ext b (.s false 1 l.length (cI l)),.ext true (.s true 8 1 (fun _ j=>jV c dg j))]⟩ K R)=W (K [.at [0,1,0,1],.blk 0,.at [1,1]] (St.mk [(8,.v (qA 0)),(7,.v (qA (↑l.length:Int))),(0,.x 0 []),(1,SV.fn (Fn.func 102) [] [.x 1 []])] [.ext b (.s false 1 l.length (cI l)),.ext true (.s true 8 1 fun(x j:Nat)=>jV c dg j)])):=by kernel_rfl
theorem ijR(b:Bool)(l:List Int)(c:Cir)(dg:List Int)(k M:Nat)(K:List It→St→Prop)(R:SV→List HO→Prop):W (xwp Tryz.prog X K48 [(102,[]),(103,[])] 60 (qO Tryz.f129 [] [⟨[0,1,0,1],[8,7,0,1],[]⟩]) [] (.at [0,0,1,0,1]::.rnd [0,0,1,0,1] M::[.blk 0,.at [1,1]]) ⟨[(8,.v (.int .i64 (k:Int))),(7,.v (.int .i64 (l.length:Int))),(0,.x 0 []),(1,.fn (.func 102) [] [.x 1 []])],[.ext b (.s false 1 l.length (cI l)),.ext true (.s true 8 1 (fun _ j=>jV c dg j))]⟩ K R)=W (bif decide ((↑k:Int)<(↑l.length:Int)) then(∀ M:Mem,(0:Int)≤(↑k:Int)∧(↑k:Int)<(↑l.length:Int))∧(∀ M:Mem,k<List.length l)∧(∀ M:Mem,0<1)∧(∀ M:Mem,0<1)∧(∀ M:Mem,0<1)∧(∀ M:Mem,0<1)∧(∀ M:Mem,0<1)∧(∀ M:Mem,0<1)∧bif decide ((0:Int)≤gI l k) then bif !decide (gI l k<(↑c.4.length:Int)) then R (.v (qA (↑k:Int))) [] else K [.rnd [0,0,1,0,1] M,.blk 0,.at [1,1]] (St.mk [(8,.v (qA (IntKind.wrap .i64 ((↑k:Int)+(1:Int))))),(7,.v (qA (↑l.length:Int))),(0,.x 0 []),(1,SV.fn (Fn.func 102) [] [.x 1 []])] [.ext b (.s false 1 l.length (cI l)),.ext true (.s true 8 1 fun(x j:Nat)=>jV c dg j)]) else R (.v (qA (↑k:Int))) [] else R (.v (qA (-1))) []):=by kernel_rfl
theorem ilS(b:Bool)(l:List Int)(c:Cir)(dg:List Int)(K:List It→St→Prop)(R:SV→List HO→Prop):W (xwp Tryz.prog X K48 [(131,[])] 60 (qO Tryz.f129 [] [⟨[0,1,0,1],[8,7,0,1],[]⟩]) [] [.at []] ⟨qQ 0 [.x 0 [],.fn (.func 131) [] [.x 1 []]],[.ext b (.s false 1 l.length (cI l)),.ext true (.s true 8 1 (fun _ j=>jV c dg j))]⟩ K R)=W (K [.at [0,1,0,1],.blk 0,.at [1,1]] (St.mk [(8,.v (qA 0)),(7,.v (qA (↑l.length:Int))),(0,.x 0 []),(1,SV.fn (Fn.func 131) [] [.x 1 []])] [.ext b (.s false 1 l.length (cI l)),.ext true (.s true 8 1 fun(x j:Nat)=>jV c dg j)])):=by kernel_rfl
theorem ilR(b:Bool)(l:List Int)(c:Cir)(dg:List Int)(k M:Nat)(K:List It→St→Prop)(R:SV→List HO→Prop):W (xwp Tryz.prog X K48 [(131,[])] 60 (qO Tryz.f129 [] [⟨[0,1,0,1],[8,7,0,1],[]⟩]) [] (.at [0,0,1,0,1]::.rnd [0,0,1,0,1] M::[.blk 0,.at [1,1]]) ⟨[(8,.v (.int .i64 (k:Int))),(7,.v (.int .i64 (l.length:Int))),(0,.x 0 []),(1,.fn (.func 131) [] [.x 1 []])],[.ext b (.s false 1 l.length (cI l)),.ext true (.s true 8 1 (fun _ j=>jV c dg j))]⟩ K R)=W (bif decide ((↑k:Int)<(↑l.length:Int)) then(∀ M:Mem,(0:Int)≤(↑k:Int)∧(↑k:Int)<(↑l.length:Int))∧(∀ M:Mem,k<List.length l)∧(∀ M:Mem,0<1)∧(∀ M:Mem,0<1)∧(∀ M:Mem,0<1)∧(∀ M:Mem,0<1)∧(∀ M:Mem,0<1)∧(∀ M:Mem,0<1)∧lH c.1 c.2 c.3 c.4.length c.5.length c.6.length c.7.length dg.length (cN c.4) (cI c.5) (cL c.6) (cK c.7) (cI dg) fun(c_1:Cir) (dg_1:List Int)=>bif !jM c_1 (gI l k) then R (.v (qA (↑k:Int))) [] else K [.rnd [0,0,1,0,1] M,.blk 0,.at [1,1]] (St.mk [(8,.v (qA (IntKind.wrap .i64 ((↑k:Int)+(1:Int))))),(7,.v (qA (↑l.length:Int))),(0,.x 0 []),(1,SV.fn (Fn.func 131) [] [.x 1 []])] [.ext b (.s false 1 l.length (cI l)),.ext true (.s true 8 1 fun(x j:Nat)=>jV c dg j)]) else R (.v (qA (-1))) []):=by kernel_rfl
theorem zAd(b0 b1 b2 b3 b4:Bool)(c:Cir)(dg:List Int)(b5:Bool)(l:List Int)(hl:l.length≤17592186043904)(hg:∀ g∈l,0≤g∧g<(dg.length:Int))(Q:SV→List HO→Prop)(hq:Q (.v (.int .i64 (gtN dg l))) []):∀(d k:Nat) (m:Int),k+d=l.length→m=gtN dg (l.take k) →
  FOk Tryz.prog Tryz.f133 Q (.rnd [0,0,1,0,1,1] (d+1)::[.blk 0,.at [1,1,1]]) ⟨[(10,.v (.int .i64 (k:Int))),(9,.v (.int .i64 (l.length:Int))),(8,.x 0 []),(5,.v (.int .i64 m)),(2,.p 1 0)],[.ext b5 (.s false 1 l.length (cI l)),.cells [.v (.int .i64 c.fx),.v (.int .i64 c.ad),.v (.int .i64 c.ins),.x 2 [],.x 3 [],.x 4 [],.x 5 [],.x 6 []] 171,.ext b0 (.s false 7 c.nodes.length (cN c.nodes)),.ext b1 (.s false 1 c.gates.length (cI c.gates)),.ext b2 (.s false 2 c.looks.length (cL c.looks)),.ext b3 (.s false 2 c.eqs.length (cK c.eqs)),.ext b4 (.s false 1 dg.length (cI dg))]⟩
 | 0,k,m,hd,he=>by
  refine FOk.rnd (qC hm 60 ((gtR b0 b1 b2 b3 b4 c dg b5 l m k 0 _ _).mpr ⟨?_⟩))
  rw[qD,if_neg (by omega)]
  rw[show k=l.length by omega,List.take_length] at he
  rw[he]
  exact hq
 | d+1,k,m,hd,he=>by
  have hk:k<l.length:=by omega
  obtain⟨h1,h2⟩:=hg _ (qAt hk)
  refine FOk.rnd (qC hm 60 ((gtR b0 b1 b2 b3 b4 c dg b5 l m k (d+1) _ _).mpr ⟨?_⟩))
  rw[qD,if_pos (by omega),qK _ (by omega)]
  refine aI (aI (aI (aI (?_))))
  exact zAd b0 b1 b2 b3 b4 c dg b5 l hl hg Q hq d (k+1) _ (by omega) (by rw[qHb hk,he])
theorem bGt:Tryz.f133.body.isSome=true:=by kernel_rfl
theorem nGt(c:Cir):Nat.ble [(.agg [.v (.int .i64 c.fx),.v (.int .i64 c.ad),.v (.int .i64 c.ins),.x 0 [],.x 1 [],.x 2 [],.x 3 [],.x 4 []]:SV),.x 5 []].length Tryz.f133.ntmps=true:=by kernel_rfl
theorem zQz(b0 b1 b2 b3 b4:Bool)(c:Cir)(dg:List Int)(b5:Bool)(l:List Int)(hl:l.length≤17592186043904)(hg:∀ g∈l,0≤g∧g<(dg.length:Int))(Q:SV→List HO→Prop)(hq:Q (.v (.int .i64 (gtN dg l))) []):qI Tryz.prog 133 [.agg [.v (.int .i64 c.fx),.v (.int .i64 c.ad),.v (.int .i64 c.ins),.x 0 [],.x 1 [],.x 2 [],.x 3 [],.x 4 []],.x 5 []] [.ext b0 (.s false 7 c.nodes.length (cN c.nodes)),.ext b1 (.s false 1 c.gates.length (cI c.gates)),.ext b2 (.s false 2 c.looks.length (cL c.looks)),.ext b3 (.s false 2 c.eqs.length (cK c.eqs)),.ext b4 (.s false 1 dg.length (cI dg)),.ext b5 (.s false 1 l.length (cI l))] Q:=by
 refine qL Tryz.func133 bGt ?_ ?_
 ·exact nGt c
 refine qC hm 60 ((gtS b0 b1 b2 b3 b4 c dg b5 l _ _).mpr ⟨?_⟩)
 exact FOk.loop (l.length+1) (by kernel_rfl) (zAd b0 b1 b2 b3 b4 c dg b5 l hl hg Q hq l.length 0 0 (by omega) rfl)
noncomputable def gGt:List SV→List HO→Option ((SV→List HO→Prop)→Prop)
 | [.agg [.v (.int .i64 fx),.v (.int .i64 ad),.v (.int .i64 ins),.x 0 [],.x 1 [],.x 2 [],.x 3 [],.x 4 []],.x 5 []],[.ext _ (.s false 7 n0 c0),.ext _ (.s false 1 n1 c1),.ext _ (.s false 2 n2 c2),.ext _ (.s false 2 n3 c3),.ext _ (.s false 1 n4 c4),.ext _ (.s false 1 n5 c5)]=>some fun Q=>lH fx ad ins n0 n1 n2 n3 n4 c0 c1 c2 c3 c4 fun c dg=>lG dg.length n5 c5 fun l=>Q (.v (.int .i64 (gtN dg l))) []
 | _,_=>none
theorem zMj(args:List SV)(h:List HO)(tr:(SV→List HO→Prop)→Prop)(Q:SV→List HO→Prop)(hc:gGt args h=some tr)(ht:tr Q):qI Tryz.prog 133 args h Q:=by
 unfold gGt at hc
 split at hc
 ·simp only[sI] at hc
  subst hc
  obtain⟨c,dg,rfl,rfl,rfl,⟨rfl,e0⟩,⟨rfl,e1⟩,⟨rfl,e2⟩,⟨rfl,e3⟩,⟨rfl,e4⟩,hk,hq⟩:=ht.h
  obtain⟨l,rfl,e5,hl,hg,hq⟩:=hq.h
  exact qI.ac (zQz _ _ _ _ _ c dg _ l hl hg Q hq) ⟨⟨rfl,rfl,rfl,rfl,e0⟩,⟨rfl,rfl,rfl,rfl,e1⟩,⟨rfl,rfl,rfl,rfl,e2⟩,⟨rfl,rfl,rfl,rfl,e3⟩,⟨rfl,rfl,rfl,rfl,e4⟩,⟨rfl,rfl,rfl,rfl,e5⟩,trivial⟩
 ·cases hc
theorem b80:Tryz.f129.body.isSome=true:=by kernel_rfl
theorem qYj(b:Bool)(l:List Int)(hb:l.length≤17592186043904)(c:Cir)(dg:List Int)(hc:c.ok)(Q:SV→List HO→Prop):∀(d k:Nat),k+d=l.length→Q (.v (.int .i64 (zB (fun n=>!yJ c n) k (l.drop k)))) [] →
  FOk Tryz.prog Tryz.f129 Q (.rnd [0,0,1,0,1] (d+1)::[.blk 0,.at [1,1]]) ⟨[(8,.v (.int .i64 (k:Int))),(7,.v (.int .i64 (l.length:Int))),(0,.x 0 []),(1,.fn (.func 102) [] [.x 1 []])],[.ext b (.s false 1 l.length (cI l)),.ext true (.s true 8 1 (fun _ j=>jV c dg j))]⟩
 | 0,k,hd,hq=>by
  refine FOk.rnd (qC hm 60 ((ijR b l c dg k 0 _ _).mpr ⟨?_⟩))
  rw[qD,if_neg (by omega)]
  rw[show k=l.length by omega,List.drop_length] at hq
  exact hq
 | d+1,k,hd,hq=>by
  have hk:k<l.length:=by omega
  refine FOk.rnd (qC hm 60 ((ijR b l c dg k (d+1) _ _).mpr ⟨?_⟩))
  rw[qD,if_pos (by omega),qK _ (by omega)]
  rw[qKa hk] at hq
  simp only[qD,qV]
  refine aI (aI (aI (aI (aI (aI (aI (aI (?_))))))))
  have go:yJ c (gI l k)=true→FOk Tryz.prog Tryz.f129 Q (.rnd [0,0,1,0,1] (d+1)::[.blk 0,.at [1,1]]) ⟨[(8,.v (.int .i64 ((k+1:Nat):Int))),(7,.v (.int .i64 (l.length:Int))),(0,.x 0 []),(1,.fn (.func 102) [] [.x 1 []])],[.ext b (.s false 1 l.length (cI l)),.ext true (.s true 8 1 (fun _ j=>jV c dg j))]⟩:=fun h=>by
   rw[h] at hq
   exact qYj b l hb c dg hc Q d (k+1) (by omega) hq
  have no:yJ c (gI l k)=false→Q (.v (.int .i64 (k:Int))) []:=fun h=>by
   rw[h] at hq
   exact hq
  refine qG (fun h=>qG (fun h2=>go (decide_eq_true ⟨h,h2⟩)) (fun h2=>no (decide_eq_false fun hh=>h2 hh.2))) (fun h=>no (decide_eq_false fun hh=>h hh.1))
theorem nij:Nat.ble [SV.x 0 [],.fn (.func 102) [] [.x 1 []]].length Tryz.f129.ntmps=true:=by kernel_rfl
theorem zSs(b:Bool)(l:List Int)(hb:l.length≤17592186043904)(c:Cir)(dg:List Int)(hc:c.ok)(Q:SV→List HO→Prop)(hq:Q (.v (.int .i64 (zB (fun n=>!yJ c n) 0 l))) []):qI Tryz.prog 129 [.x 0 [],.fn (.func 102) [] [.x 1 []]] [.ext b (.s false 1 l.length (cI l)),.ext true (.s true 8 1 (fun _ j=>jV c dg j))] Q:=by
 refine qL Tryz.func129 b80 ?_ ?_
 ·exact nij
 refine qC hm 60 ((ijS b l c dg _ _).mpr ⟨?_⟩)
 exact FOk.loop (l.length+1) (by kernel_rfl) (qYj b l hb c dg hc Q l.length 0 (by omega) hq)
theorem qZt(b:Bool)(l:List Int)(hb:l.length≤17592186043904)(c:Cir)(dg:List Int)(hc:c.ok)(Q:SV→List HO→Prop):∀(d k:Nat),k+d=l.length→Q (.v (.int .i64 (zB (fun n=>!jM c n) k (l.drop k)))) [] →
  FOk Tryz.prog Tryz.f129 Q (.rnd [0,0,1,0,1] (d+1)::[.blk 0,.at [1,1]]) ⟨[(8,.v (.int .i64 (k:Int))),(7,.v (.int .i64 (l.length:Int))),(0,.x 0 []),(1,.fn (.func 131) [] [.x 1 []])],[.ext b (.s false 1 l.length (cI l)),.ext true (.s true 8 1 (fun _ j=>jV c dg j))]⟩
 | 0,k,hd,hq=>by
  refine FOk.rnd (qC hm 60 ((ilR b l c dg k 0 _ _).mpr ⟨?_⟩))
  rw[qD,if_neg (by omega)]
  rw[show k=l.length by omega,List.drop_length] at hq
  exact hq
 | d+1,k,hd,hq=>by
  have hk:k<l.length:=by omega
  refine FOk.rnd (qC hm 60 ((ilR b l c dg k (d+1) _ _).mpr ⟨?_⟩))
  rw[qD,if_pos (by omega),qK _ (by omega)]
  rw[qKa hk] at hq
  refine aI (aI (aI (aI (aI (aI (aI (aI (?_))))))))
  refine qGn c dg hc (qJ (fun h=>?_) (fun h=>?_))
  ·rw[Bool.not_eq_true'] at h
   rw[h] at hq
   exact hq
  ·rw[Bool.not_eq_false'] at h
   rw[h] at hq
   exact qZt b l hb c dg hc Q d (k+1) (by omega) hq
theorem nil:Nat.ble [SV.x 0 [],.fn (.func 131) [] [.x 1 []]].length Tryz.f129.ntmps=true:=by kernel_rfl
theorem zSk(b:Bool)(l:List Int)(hb:l.length≤17592186043904)(c:Cir)(dg:List Int)(hc:c.ok)(Q:SV→List HO→Prop)(hq:Q (.v (.int .i64 (zB (fun n=>!jM c n) 0 l))) []):qI Tryz.prog 129 [.x 0 [],.fn (.func 131) [] [.x 1 []]] [.ext b (.s false 1 l.length (cI l)),.ext true (.s true 8 1 (fun _ j=>jV c dg j))] Q:=by
 refine qL Tryz.func129 b80 ?_ ?_
 ·exact nil
 refine qC hm 60 ((ilS b l c dg _ _).mpr ⟨?_⟩)
 exact FOk.loop (l.length+1) (by kernel_rfl) (qZt b l hb c dg hc Q l.length 0 (by omega) hq)
noncomputable def g80:List SV→List HO→Option ((SV→List HO→Prop)→Prop)
 | [.x 0 [],.fn (.func 102) [] [.x 1 []]],[.ext _ (.s false 1 n c),.ext true (.s true 8 1 ck)]=>some fun Q=>lI n c fun l=>lKc ck fun c dg=>Q (.v (.int .i64 (zB (fun n=>!yJ c n) 0 l))) []
 | [.x 0 [],.fn (.func 131) [] [.x 1 []]],[.ext _ (.s false 1 n c),.ext true (.s true 8 1 ck)]=>some fun Q=>lI n c fun l=>lKc ck fun c dg=>Q (.v (.int .i64 (zB (fun n=>!jM c n) 0 l))) []
 | _,_=>none
theorem zMf(args:List SV)(h:List HO)(tr:(SV→List HO→Prop)→Prop)(Q:SV→List HO→Prop)(hc:g80 args h=some tr)(ht:tr Q):qI Tryz.prog 129 args h Q:=by
 unfold g80 at hc
 split at hc
 ·simp only[sI] at hc
  subst hc
  obtain⟨l,rfl,he,hb,hk⟩:=ht.h
  obtain⟨c,dg,e1,hc,hq⟩:=hk.h
  exact qI.ac (zSs _ l hb c dg hc Q hq) ⟨⟨rfl,rfl,rfl,rfl,he⟩,⟨rfl,rfl,rfl,rfl,e1⟩,trivial⟩
 ·simp only[sI] at hc
  subst hc
  obtain⟨l,rfl,he,hb,hk⟩:=ht.h
  obtain⟨c,dg,e1,hc,hq⟩:=hk.h
  exact qI.ac (zSk _ l hb c dg hc Q hq) ⟨⟨rfl,rfl,rfl,rfl,he⟩,⟨rfl,rfl,rfl,rfl,e1⟩,trivial⟩
 ·cases hc
noncomputable def K49:Con Tryz.prog:=(K48.add 133 gGt zMj).add 129 g80 zMf
end Go.Proofs.YtlmjdcbhpffanaaGreat
/- The checker: columns that may be copied; lookups. -/
namespace Go.Pl
open Go.Sx
def qMg(c:Cir)(k:Int):Int:=if k=2 then c.fx else if k=3 then c.ad else if k=4 then c.ins else 0
def okK(c:Cir)(x:Int×Int):Bool:=decide ((2≤x.1∧x.1≤4)∧0≤x.2∧x.2<qMg c x.1)
def eqF(c:Cir):List (Int×Int)→List (Int×Int)→Bool
 | seen,x::r=>okK c x&&!decide (x∈seen)&&eqF c (seen++[x]) r
 | _,[]=>true
def prK(x:Int×Int):List Int:=[x.1,x.2]
theorem qRu{x y:Int×Int}:prK x=prK y↔x=y:=by
 constructor
 ·intro h
  simp only[prK,List.cons.injEq,and_true] at h
  exact Prod.ext h.1 h.2
 ·intro h; rw[h]
theorem qKi:∀(l:List (Int×Int)) (x:Int×Int),jY (l.map prK) [x.1,x.2]=decide (x∈l)
 | [],x=>by simp [jY]
 | y::r,x=>by
  have:decide ([x.1,x.2]=prK y)=decide (x=y):=decide_eq_decide.2 qRu
  rw[List.map_cons,jY,this,qKi r x]
  by_cases h:x=y
  ·simp [h]
  ·simp [h]
theorem qVh:∀(kl:List (List Int)) (x:List Int),jY kl x=false→zK kl x=kl++[x]
 | [],x,_=>rfl
 | k::r,x,h=>by
  rw[jY,Bool.or_eq_false_iff] at h
  rw[zK,h.1,cond_false,qVh r x h.2]
  rfl
theorem zNg(k:Int):jY [[2],[3],[4]] [k]=decide (2≤k∧k≤4):=by
 simp only[jY,List.cons.injEq,and_true,Bool.or_false]
 by_cases h2:k=2
 ·subst h2; rfl
 ·by_cases h3:k=3
  ·subst h3; rfl
  ·by_cases h4:k=4
   ·subst h4; rfl
   ·rw[decide_eq_false h2,decide_eq_false h3,decide_eq_false h4,decide_eq_false (by omega)]; rfl
theorem zOw(c:Cir)(k:Int):zG [[2],[3],[4]] [c.fx,c.ad,c.ins] [k]=qMg c k:=by
 simp only[zG,qMg,List.cons.injEq,and_true]
 by_cases h2:k=2
 ·simp [h2]
 ·by_cases h3:k=3
  ·simp [h3]
  ·by_cases h4:k=4
   ·simp [h4]
   ·simp [h2,h3,h4]
theorem qYq{l:List (Int×Int)}{k:Nat}(h:k<l.length):l.drop k=gK l k::l.drop (k+1):=by
 rw[List.drop_eq_getElem_cons h,gK,List.getD_eq_getElem?_getD,List.getElem?_eq_getElem h]; rfl
theorem qRs{l:List (Int×Int)}{k:Nat}(h:k<l.length):l.take (k+1)=l.take k++[gK l k]:=by
 rw[List.take_add_one,List.getElem?_eq_getElem h,gK,List.getD_eq_getElem?_getD,List.getElem?_eq_getElem h]; rfl
structure lLk (n:Nat) (c:Nat→Nat→qB) (k:List (List Int×List Int)→Prop):Prop where
 h:∃ l:List (List Int×List Int),n=l.length∧IsC n 2 c (cL l)∧l.length*48≤140737488351232∧(∀ x∈l,x.1.length*8≤140737488351232∧x.2.length*8≤140737488351232)∧k l
theorem qRx(c:Cir)(dg:List Int)(hc:c.ok){k:Cir→List Int→Prop}(h:k c dg):lKc (lc 8 [qB.v (.int .i64 c.fx),qB.v (.int .i64 c.ad),qB.v (.int .i64 c.ins),qB.s false 7 c.nodes.length (cN c.nodes),qB.s false 1 c.gates.length (cI c.gates),qB.s false 2 c.looks.length (cL c.looks),qB.s false 2 c.eqs.length (cK c.eqs),qB.s false 1 dg.length (cI dg)]) k :=
 ⟨⟨c,dg,fun k hk j hj=>by
  have:k=0:=by omega
  subst this
  match j,hj with
  | 0,_=>rfl
  | 1,_=>rfl
  | 2,_=>rfl
  | 3,_=>rfl
  | 4,_=>rfl
  | 5,_=>rfl
  | 6,_=>rfl
  | 7,_=>rfl,hc,h⟩⟩
def jI(c:Cir)(x:List Int×List Int):Bool:=decide (1≤x.1.length∧x.1.length≤4∧x.2.length=x.1.length)&&!x.1.any (fun n=>!jM c n)&&!x.2.any (fun n=>!jM c n)
theorem qWb{p:List Int×List Int→Bool}{l:List (List Int×List Int)}{k:Nat}(h:k<l.length):zB p k (l.drop k)=if p (gL l k) then(k:Int) else zB p (k+1) (l.drop (k+1)):=by
 rw[List.drop_eq_getElem_cons h,zB,gL,List.getD_eq_getElem?_getD,List.getElem?_eq_getElem h]; rfl
end Go.Pl
namespace Go.Proofs.YtlmjdcbhpffanaaGreat
open Go.Sx Go.Pl
set_option linter.unusedVariables false
set_option maxRecDepth 100000
theorem zVo(b0 b1 b2 b3 b4:Bool)(c:Cir)(dg:List Int)(K:List It→St→Prop)(R:SV→List HO→Prop):W (xwp Tryz.prog X K49 [] 60 (qO Tryz.f107 [] [⟨[0,1,0,1,1,1],[27,26,25,4,3],[]⟩]) [] [.at []] ⟨qQ 0 [.agg [.v (.int .i64 c.fx),.v (.int .i64 c.ad),.v (.int .i64 c.ins),.x 0 [],.x 1 [],.x 2 [],.x 3 [],.x 4 []]],[.ext b0 (.s false 7 c.nodes.length (cN c.nodes)),.ext b1 (.s false 1 c.gates.length (cI c.gates)),.ext b2 (.s false 2 c.looks.length (cL c.looks)),.ext b3 (.s false 2 c.eqs.length (cK c.eqs)),.ext b4 (.s false 1 dg.length (cI dg))]⟩ K R)=W (K [.at [0,1,0,1,1,1],.blk 0,.at [1,1,1,1]] (St.mk [(27,.v (qA 0)),(26,.v (qA (↑c.7.length:Int))),(25,.x 0 []),(4,.m 1),(3,.m 2)] [.ext b3 (.s false 2 c.7.length (cK c.7)),.mp false [IntKind.i64] [[(2:Int)],[(3:Int)],[(4:Int)]] (Mc.ints IntKind.i64 (qU [[(2:Int)],[(3:Int)]] (qU [[(2:Int)]] (qU [] [] [(2:Int)] c.1) [(3:Int)] c.2) [(4:Int)] c.3)),.mp true [IntKind.i64,IntKind.i64] [] Mc.unit])):=by kernel_rfl
theorem zTb(b:Bool)(l:List (Int×Int))(ms:List Int)(kl:List (List Int))(k M:Nat)(K:List It→St→Prop)(R:SV→List HO→Prop):W (xwp Tryz.prog X K49 [] 60 (qO Tryz.f107 [] [⟨[0,1,0,1,1,1],[27,26,25,4,3],[]⟩]) [] (.at [0,0,1,0,1,1,1]::.rnd [0,0,1,0,1,1,1] M::[.blk 0,.at [1,1,1,1]]) ⟨[(27,.v (.int .i64 (k:Int))),(26,.v (.int .i64 (l.length:Int))),(25,.x 0 []),(4,.m 1),(3,.m 2)],[.ext b (.s false 2 l.length (cK l)),.mp false [.i64] [[2],[3],[4]] (.ints .i64 ms),.mp true [.i64,.i64] kl .unit]⟩ K R)=W (bif decide ((↑k:Int)<(↑l.length:Int)) then(∀ M:Mem,(0:Int)≤(↑k:Int)∧(↑k:Int)<(↑l.length:Int))∧(∀ M:Mem,k<List.length l)∧(∀ M:Mem,0+2≤2)∧(∀ M:Mem,0≤0)∧bif !jY [[(2:Int)],[(3:Int)],[(4:Int)]] [(gK l k).1] then R (.v (.bool false)) [] else bif jY kl [(gK l k).1,(gK l k).2] then R (.v (.bool false)) [] else bif decide ((gK l k).2<(0:Int)) then R (.v (.bool false)) [] else bif decide (zG [[(2:Int)],[(3:Int)],[(4:Int)]] ms [(gK l k).1]≤(gK l k).2) then R (.v (.bool false)) [] else K [.rnd [0,0,1,0,1,1,1] M,.blk 0,.at [1,1,1,1]] (St.mk [(27,.v (qA (IntKind.wrap .i64 ((↑k:Int)+(1:Int))))),(26,.v (qA (↑l.length:Int))),(25,.x 0 []),(4,.m 1),(3,.m 2)] [.ext b (.s false 2 l.length (cK l)),.mp false [IntKind.i64] [[(2:Int)],[(3:Int)],[(4:Int)]] (Mc.ints IntKind.i64 ms),.mp true [IntKind.i64,IntKind.i64] (zK kl [(gK l k).1,(gK l k).2]) Mc.unit]) else R (.v (.bool true)) []):=by kernel_rfl
theorem ikS(b:Bool)(c:Cir)(dg:List Int)(l:List (List Int×List Int))(K:List It→St→Prop)(R:SV→List HO→Prop):W (xwp Tryz.prog X K49 [(105,[]),(106,[]),(101,[])] 60 (qO Tryz.f130 [] [⟨[0,1,0,1],[8,7,0,1],[]⟩]) [] [.at []] ⟨qQ 0 [.x 0 [],.fn (.func 105) [] [.x 1 []]],[.ext b (.s false 2 l.length (cL l)),.ext true (.s true 8 1 (fun _ j=>jV c dg j))]⟩ K R)=W (K [.at [0,1,0,1],.blk 0,.at [1,1]] (St.mk [(8,.v (qA 0)),(7,.v (qA (↑l.length:Int))),(0,.x 0 []),(1,SV.fn (Fn.func 105) [] [.x 1 []])] [.ext b (.s false 2 l.length (cL l)),.ext true (.s true 8 1 fun(x j:Nat)=>jV c dg j)])):=by kernel_rfl
theorem ikR(b:Bool)(c:Cir)(dg:List Int)(l:List (List Int×List Int))(k M:Nat)(K:List It→St→Prop)(R:SV→List HO→Prop):W (xwp Tryz.prog X K49 [(105,[]),(106,[]),(101,[])] 60 (qO Tryz.f130 [] [⟨[0,1,0,1],[8,7,0,1],[]⟩]) [] (.at [0,0,1,0,1]::.rnd [0,0,1,0,1] M::[.blk 0,.at [1,1]]) ⟨[(8,.v (.int .i64 (k:Int))),(7,.v (.int .i64 (l.length:Int))),(0,.x 0 []),(1,.fn (.func 105) [] [.x 1 []])],[.ext b (.s false 2 l.length (cL l)),.ext true (.s true 8 1 (fun _ j=>jV c dg j))]⟩ K R)=W (bif decide ((↑k:Int)<(↑l.length:Int)) then(∀ M:Mem,(0:Int)≤(↑k:Int)∧(↑k:Int)<(↑l.length:Int))∧(∀ M:Mem,k<List.length l)∧(∀ M:Mem,k<List.length l)∧(∀ M:Mem,k<List.length l)∧(∀ M:Mem,0<1)∧(∀ M:Mem,0<1)∧(∀ M:Mem,0<1)∧(∀ M:Mem,0<1)∧(∀ M:Mem,0<1)∧(∀ M:Mem,0<1)∧bif decide ((↑(List.length (gL l k).1):Int)<(1:Int)) then R (.v (qA (↑k:Int))) [] else bif decide ((4:Int)<(↑(List.length (gL l k).1):Int)) then R (.v (qA (↑k:Int))) [] else bif !(↑(List.length (gL l k).2):Int)==(↑(List.length (gL l k).1):Int) then R (.v (qA (↑k:Int))) [] else lI (List.length (gL l k).1) (cI (gL l k).1) fun(l_1:List Int)=>lKc (lc 8 [.v (qA c.1),.v (qA c.2),.v (qA c.3),.s false 7 c.4.length (cN c.4),.s false 1 c.5.length (cI c.5),.s false 2 c.6.length (cL c.6),.s false 2 c.7.length (cK c.7),.s false 1 dg.length (cI dg)]) fun(c_1:Cir) (dg_1:List Int)=>bif !decide ((0:Int)≤zB (fun(n:Int)=>!jM c_1 n) 0 l_1) then lI (List.length (gL l k).2) (cI (gL l k).2) fun(l_2:List Int)=>lKc (lc 8 [.v (qA c.1),.v (qA c.2),.v (qA c.3),.s false 7 c.4.length (cN c.4),.s false 1 c.5.length (cI c.5),.s false 2 c.6.length (cL c.6),.s false 2 c.7.length (cK c.7),.s false 1 dg.length (cI dg)]) fun(c_2:Cir) (dg_2:List Int)=>bif !!decide ((0:Int)≤zB (fun(n:Int)=>!jM c_2 n) 0 l_2) then R (.v (qA (↑k:Int))) [] else K [.rnd [0,0,1,0,1] M,.blk 0,.at [1,1]] (St.mk [(8,.v (qA (IntKind.wrap .i64 ((↑k:Int)+(1:Int))))),(7,.v (qA (↑l.length:Int))),(0,.x 0 []),(1,SV.fn (Fn.func 105) [] [.x 1 []])] [.ext b (.s false 2 l.length (cL l)),.ext true (.s true 8 1 fun(x j:Nat)=>jV c dg j)]) else R (.v (qA (↑k:Int))) [] else R (.v (qA (-1))) []):=by kernel_rfl
theorem qTm(b:Bool)(c:Cir)(l:List (Int×Int))(hl:l.length≤8796093022208)(ms:List Int)(hms:ms=[c.fx,c.ad,c.ins])(Q:SV→List HO→Prop):∀(d k:Nat) (kl:List (List Int)),k+d=l.length→kl=(l.take k).map prK→Q (.v (.bool (eqF c (l.take k) (l.drop k)))) [] →
  FOk Tryz.prog Tryz.f107 Q (.rnd [0,0,1,0,1,1,1] (d+1)::[.blk 0,.at [1,1,1,1]]) ⟨[(27,.v (.int .i64 (k:Int))),(26,.v (.int .i64 (l.length:Int))),(25,.x 0 []),(4,.m 1),(3,.m 2)],[.ext b (.s false 2 l.length (cK l)),.mp false [.i64] [[2],[3],[4]] (.ints .i64 ms),.mp true [.i64,.i64] kl .unit]⟩
 | 0,k,kl,hd,he,hq=>by
  refine FOk.rnd (qC hm 60 ((zTb b l ms kl k 0 _ _).mpr ⟨?_⟩))
  rw[qD,if_neg (by omega)]
  rw[show k=l.length by omega,List.drop_length,eqF] at hq
  exact hq
 | d+1,k,kl,hd,he,hq=>by
  have hk:k<l.length:=by omega
  refine FOk.rnd (qC hm 60 ((zTb b l ms kl k (d+1) _ _).mpr ⟨?_⟩))
  rw[qD,if_pos (by omega),qK _ (by omega),zNg,hms,zOw,he,qKi]
  rw[qYq hk,eqF] at hq
  simp only[qD,qV]
  refine aI (aI (aI (aI (?_))))
  have no:(okK c (gK l k)&&!decide (gK l k∈l.take k))=false→Q (.v (.bool false)) []:=fun h=>by
   rw[h,Bool.false_and] at hq
   exact hq
  refine qG (fun h1=>qG (fun h2=>?_) (fun h2=>qG (fun h3=>?_) (fun h3=>qG (fun h4=>?_) (fun h4=>?_)))) (fun h1=>?_)
  ·exact no (by rw[decide_eq_true h2]; simp)
  ·exact no (by rw[okK,decide_eq_false (by omega)]; rfl)
  ·exact no (by rw[okK,decide_eq_false (by omega)]; rfl)
  ·rw[okK,decide_eq_true (by omega),decide_eq_false h2,Bool.not_false,Bool.true_and,Bool.true_and,← qRs hk] at hq
   have h5:zK ((l.take k).map prK) [(gK l k).1,(gK l k).2]=(l.take (k+1)).map prK:=by
    rw[qVh _ _ (by rw[qKi,decide_eq_false h2]),qRs hk,List.map_append]; rfl
   rw[h5]
   have:=qTm b c l hl ms hms Q d (k+1) _ (by omega) rfl hq
   rw[hms] at this
   exact this
  ·exact no (by rw[okK,decide_eq_false (by omega)]; rfl)
theorem zXo:Tryz.f107.body.isSome=true:=by kernel_rfl
theorem zYa(c:Cir):Nat.ble [(.agg [.v (.int .i64 c.fx),.v (.int .i64 c.ad),.v (.int .i64 c.ins),.x 0 [],.x 1 [],.x 2 [],.x 3 [],.x 4 []]:SV)].length Tryz.f107.ntmps=true:=by kernel_rfl
theorem zJe(b0 b1 b2 b3 b4:Bool)(c:Cir)(dg:List Int)(hc:c.ok)(Q:SV→List HO→Prop)(hq:Q (.v (.bool (eqF c [] c.eqs))) []):qI Tryz.prog 107 [.agg [.v (.int .i64 c.fx),.v (.int .i64 c.ad),.v (.int .i64 c.ins),.x 0 [],.x 1 [],.x 2 [],.x 3 [],.x 4 []]] [.ext b0 (.s false 7 c.nodes.length (cN c.nodes)),.ext b1 (.s false 1 c.gates.length (cI c.gates)),.ext b2 (.s false 2 c.looks.length (cL c.looks)),.ext b3 (.s false 2 c.eqs.length (cK c.eqs)),.ext b4 (.s false 1 dg.length (cI dg))] Q:=by
 refine qL Tryz.func107 zXo ?_ ?_
 ·exact zYa c
 have h1:=hc.e.2
 refine qC hm 60 ((zVo b0 b1 b2 b3 b4 c dg _ _).mpr ⟨?_⟩)
 exact FOk.loop (c.eqs.length+1) (by kernel_rfl) (qTm b3 c c.eqs (by omega) _ rfl Q c.eqs.length 0 [] (by omega) rfl hq)
noncomputable def zPb:List SV→List HO→Option ((SV→List HO→Prop)→Prop)
 | [.agg [.v (.int .i64 fx),.v (.int .i64 ad),.v (.int .i64 ins),.x 0 [],.x 1 [],.x 2 [],.x 3 [],.x 4 []]],[.ext _ (.s false 7 n0 c0),.ext _ (.s false 1 n1 c1),.ext _ (.s false 2 n2 c2),.ext _ (.s false 2 n3 c3),.ext _ (.s false 1 n4 c4)]=>some fun Q=>lH fx ad ins n0 n1 n2 n3 n4 c0 c1 c2 c3 c4 fun c dg=>Q (.v (.bool (eqF c [] c.eqs))) []
 | _,_=>none
theorem zGj(args:List SV)(h:List HO)(tr:(SV→List HO→Prop)→Prop)(Q:SV→List HO→Prop)(hc:zPb args h=some tr)(ht:tr Q):qI Tryz.prog 107 args h Q:=by
 unfold zPb at hc
 split at hc
 ·simp only[sI] at hc
  subst hc
  obtain⟨c,dg,rfl,rfl,rfl,⟨rfl,e0⟩,⟨rfl,e1⟩,⟨rfl,e2⟩,⟨rfl,e3⟩,⟨rfl,e4⟩,hk,hq⟩:=ht.h
  exact qI.ac (zJe _ _ _ _ _ c dg hk Q hq) ⟨⟨rfl,rfl,rfl,rfl,e0⟩,⟨rfl,rfl,rfl,rfl,e1⟩,⟨rfl,rfl,rfl,rfl,e2⟩,⟨rfl,rfl,rfl,rfl,e3⟩,⟨rfl,rfl,rfl,rfl,e4⟩,trivial⟩
 ·cases hc
theorem qZe(b:Bool)(c:Cir)(dg:List Int)(l:List (List Int×List Int))(hb:l.length*48≤140737488351232)(hl:∀ x∈l,x.1.length*8≤140737488351232∧x.2.length*8≤140737488351232)(hc:c.ok)(Q:SV→List HO→Prop):∀(d k:Nat),k+d=l.length→Q (.v (.int .i64 (zB (fun x=>!jI c x) k (l.drop k)))) [] →
  FOk Tryz.prog Tryz.f130 Q (.rnd [0,0,1,0,1] (d+1)::[.blk 0,.at [1,1]]) ⟨[(8,.v (.int .i64 (k:Int))),(7,.v (.int .i64 (l.length:Int))),(0,.x 0 []),(1,.fn (.func 105) [] [.x 1 []])],[.ext b (.s false 2 l.length (cL l)),.ext true (.s true 8 1 (fun _ j=>jV c dg j))]⟩
 | 0,k,hd,hq=>by
  refine FOk.rnd (qC hm 60 ((ikR b c dg l k 0 _ _).mpr ⟨?_⟩))
  rw[qD,if_neg (by omega)]
  rw[show k=l.length by omega,List.drop_length] at hq
  exact hq
 | d+1,k,hd,hq=>by
  have hk:k<l.length:=by omega
  obtain⟨l1,l2⟩:=hl _ (qCt hk)
  refine FOk.rnd (qC hm 60 ((ikR b c dg l k (d+1) _ _).mpr ⟨?_⟩))
  rw[qD,if_pos (by omega),qK _ (by omega)]
  rw[qWb hk] at hq
  have go:jI c (gL l k)=true→FOk Tryz.prog Tryz.f130 Q (.rnd [0,0,1,0,1] (d+1)::[.blk 0,.at [1,1]]) ⟨[(8,.v (.int .i64 ((k+1:Nat):Int))),(7,.v (.int .i64 (l.length:Int))),(0,.x 0 []),(1,.fn (.func 105) [] [.x 1 []])],[.ext b (.s false 2 l.length (cL l)),.ext true (.s true 8 1 (fun _ j=>jV c dg j))]⟩:=fun h=>by
   rw[h] at hq
   exact qZe b c dg l hb hl hc Q d (k+1) (by omega) hq
  have no:jI c (gL l k)=false→Q (.v (.int .i64 (k:Int))) []:=fun h=>by
   rw[h] at hq
   exact hq
  simp only[qD,qV,zC]
  refine aI (aI (aI (aI (aI (aI (aI (aI (aI (aI (?_))))))))))
  refine qG (fun h=>no ?_) (fun h1=>qG (fun h=>no ?_) (fun h2=>qG (fun h3=>?_) (fun h3=>no ?_)))
  ·rw[jI,decide_eq_false (by omega)]; rfl
  ·rw[jI,decide_eq_false (by omega)]; rfl
  ·refine⟨⟨_,rfl,IsC.refl _ _ _,by omega,qRx c dg hc (qG (fun h4=>no ?_) (fun h4=>⟨⟨_,rfl,IsC.refl _ _ _,by omega,qRx c dg hc (qG (fun h5=>no ?_) (fun h5=>go ?_))⟩⟩))⟩⟩
   ·rw[jI,← jC (fun n=>!jM c n) (gL l k).1 0,decide_eq_true h4]; simp
   ·rw[jI,← jC (fun n=>!jM c n) (gL l k).2 0,decide_eq_true h5]; simp
   ·rw[jI,← jC (fun n=>!jM c n) (gL l k).1 0,← jC (fun n=>!jM c n) (gL l k).2 0,decide_eq_false h4,decide_eq_false h5,decide_eq_true (by omega)]; rfl
  ·rw[jI,decide_eq_false (by omega)]; rfl
theorem b81:Tryz.f130.body.isSome=true:=by kernel_rfl
theorem n81:Nat.ble [SV.x 0 [],.fn (.func 105) [] [.x 1 []]].length Tryz.f130.ntmps=true:=by kernel_rfl
theorem zQb(b:Bool)(c:Cir)(dg:List Int)(l:List (List Int×List Int))(hb:l.length*48≤140737488351232)(hl:∀ x∈l,x.1.length*8≤140737488351232∧x.2.length*8≤140737488351232)(hc:c.ok)(Q:SV→List HO→Prop)(hq:Q (.v (.int .i64 (zB (fun x=>!jI c x) 0 l))) []):qI Tryz.prog 130 [.x 0 [],.fn (.func 105) [] [.x 1 []]] [.ext b (.s false 2 l.length (cL l)),.ext true (.s true 8 1 (fun _ j=>jV c dg j))] Q:=by
 refine qL Tryz.func130 b81 ?_ ?_
 ·exact n81
 refine qC hm 60 ((ikS b c dg l _ _).mpr ⟨?_⟩)
 exact FOk.loop (l.length+1) (by kernel_rfl) (qZe b c dg l hb hl hc Q l.length 0 (by omega) hq)
noncomputable def g81:List SV→List HO→Option ((SV→List HO→Prop)→Prop)
 | [.x 0 [],.fn (.func 105) [] [.x 1 []]],[.ext _ (.s false 2 n c),.ext true (.s true 8 1 ck)]=>some fun Q=>lLk n c fun l=>lKc ck fun c dg=>Q (.v (.int .i64 (zB (fun x=>!jI c x) 0 l))) []
 | _,_=>none
theorem zOy(args:List SV)(h:List HO)(tr:(SV→List HO→Prop)→Prop)(Q:SV→List HO→Prop)(hc:g81 args h=some tr)(ht:tr Q):qI Tryz.prog 130 args h Q:=by
 unfold g81 at hc
 split at hc
 ·simp only[sI] at hc
  subst hc
  obtain⟨l,rfl,he,hb,hl,hk⟩:=ht.h
  obtain⟨c,dg,e1,hc,hq⟩:=hk.h
  exact qI.ac (zQb _ c dg l hb hl hc Q hq) ⟨⟨rfl,rfl,rfl,rfl,he⟩,⟨rfl,rfl,rfl,rfl,e1⟩,trivial⟩
 ·cases hc
noncomputable def K50:Con Tryz.prog:=(K49.add 107 zPb zGj).add 130 g81 zOy
end Go.Proofs.YtlmjdcbhpffanaaGreat
/- The checker: the degree. -/
namespace Go.Pl
open Go.Sx
def mxI(a b:Int):Int:=if a<b then b else a
def qAn(c:Cir):Int:=if 0<c.looks.length+c.eqs.length then 4 else 3
def qDl(c:Cir)(dg:List Int):Int:=c.looks.foldl (fun d l=>mxI d (2+gtN dg l.1+gtN dg l.2)) (mxI (qAn c) (gtN dg c.gates+1))
structure qAw (c:Cir) (dg:List Int):Prop where
 g:∀ g∈c.gates,0≤g∧g<(dg.length:Int)
 l:∀ x∈c.looks,(∀ g∈x.1,0≤g∧g<(dg.length:Int))∧∀ g∈x.2,0≤g∧g<(dg.length:Int)
 d:∀ y∈dg,0≤y∧y≤1000
theorem zFc{dg:List Int}(h:∀ y∈dg,0≤y∧y≤1000)(k:Nat):0≤gI dg k∧gI dg k≤1000:=by
 by_cases hk:k<dg.length
 ·exact h _ (qAt hk)
 ·rw[gI,List.getD_eq_getElem?_getD,List.getElem?_eq_none (by omega)]
  exact⟨Int.le_refl _,by decide⟩
theorem qGh{dg:List Int}(h:∀ y∈dg,0≤y∧y≤1000)(l:List Int):0≤gtN dg l∧gtN dg l≤1000:=by
 have:∀(l:List Int) (m:Int),0≤m∧m≤1000→0≤l.foldl (fun m g=>if m<gI dg g.toNat then gI dg g.toNat else m) m∧l.foldl (fun m g=>if m<gI dg g.toNat then gI dg g.toNat else m) m≤1000:=by
  intro l
  induction l with
  | nil=>intro m hm; exact hm
  | cons g r ih =>
   intro m hm
   rw[List.foldl_cons]
   refine ih _ ?_
   split
   ·exact zFc h _
   ·exact hm
 exact this l 0 (by omega)
theorem qIw{α:Type}(f:α→List Int×List Int→α)(a:α){l:List (List Int×List Int)}{k:Nat}(h:k<l.length):(l.take (k+1)).foldl f a=f ((l.take k).foldl f a) (gL l k):=by
 rw[List.take_add_one,List.getElem?_eq_getElem h,List.foldl_append,gL,List.getD_eq_getElem?_getD,List.getElem?_eq_getElem h]; rfl
end Go.Pl
namespace Go.Proofs.YtlmjdcbhpffanaaGreat
open Go.Sx Go.Pl
set_option linter.unusedVariables false
set_option maxRecDepth 100000
theorem zQq(b0 b1 b4:Bool)(c:Cir)(dg:List Int)(m:Int)(k M:Nat)(K:List It→St→Prop)(R:SV→List HO→Prop):W (xwp Tryz.prog X K50 [] 60 (qO Tryz.f108 [] [⟨[0,1,0,1,1,1,1],[28,27,26,3,1],[]⟩]) [] (.at [0,0,1,0,1,1,1,1]::.rnd [0,0,1,0,1,1,1,1] M::[.blk 0,.at [1,1,1,1,1]]) ⟨[(28,.v (.int .i64 (k:Int))),(27,.v (.int .i64 (c.looks.length:Int))),(26,.x 0 []),(3,.v (.int .i64 m)),(1,.p 1 0)],[.ext false (.s false 2 c.looks.length (cL c.looks)),.cells [.v (.int .i64 c.fx),.v (.int .i64 c.ad),.v (.int .i64 c.ins),.x 2 [],.x 3 [],.x 0 [],.x 4 [],.x 5 []] 171,.ext b0 (.s false 7 c.nodes.length (cN c.nodes)),.ext b1 (.s false 1 c.gates.length (cI c.gates)),.ext false (.s false 2 c.eqs.length (cK c.eqs)),.ext b4 (.s false 1 dg.length (cI dg))]⟩ K R)=W (bif decide ((↑k:Int)<(↑c.6.length:Int)) then(∀ M:Mem,(0:Int)≤(↑k:Int)∧(↑k:Int)<(↑c.6.length:Int))∧(∀ M:Mem,k<List.length c.6)∧(∀ M:Mem,0+2≤2)∧(∀ M:Mem,k<List.length c.6)∧lH c.1 c.2 c.3 c.4.length c.5.length c.6.length c.7.length dg.length (cN c.4) (cI c.5) (cL c.6) (cK c.7) (cI dg) fun(c_1:Cir) (dg_1:List Int)=>lG dg_1.length (List.length (gL c.6 k).1) (cI (gL c.6 k).1) fun(l:List Int)=>(∀ M:Mem,k<List.length c.6)∧lH c.1 c.2 c.3 c.4.length c.5.length c.6.length c.7.length dg.length (cN c.4) (cI c.5) (cL c.6) (cK c.7) (cI dg) fun(c_2:Cir) (dg_2:List Int)=>lG dg_2.length (List.length (gL c.6 k).2) (cI (gL c.6 k).2) fun(l_1:List Int)=>K [.rnd [0,0,1,0,1,1,1,1] M,.blk 0,.at [1,1,1,1,1]] (St.mk [(28,.v (qA (IntKind.wrap .i64 ((↑k:Int)+(1:Int))))),(27,.v (qA (↑c.6.length:Int))),(26,.x 0 []),(3,.v (qA (if m<IntKind.wrap .i64 (IntKind.wrap .i64 ((2:Int)+gtN dg_1 l)+gtN dg_2 l_1) then IntKind.wrap .i64 (IntKind.wrap .i64 ((2:Int)+gtN dg_1 l)+gtN dg_2 l_1) else m))),(1,.p 1 0)] [.ext false (.s false 2 c.6.length (cL c.6)),.cells [.v (qA c.1),.v (qA c.2),.v (qA c.3),.x 2 [],.x 3 [],.x 0 [],.x 4 [],.x 5 []] 171,.ext b0 (.s false 7 c.4.length (cN c.4)),.ext b1 (.s false 1 c.5.length (cI c.5)),.ext false (.s false 2 c.7.length (cK c.7)),.ext b4 (.s false 1 dg.length (cI dg))]) else R (.v (qA m)) []):=by kernel_rfl
theorem zVl(b0 b1 b4:Bool)(c:Cir)(dg:List Int)(K:List It→St→Prop)(R:SV→List HO→Prop):W (xwp Tryz.prog X K50 [] 60 (qO Tryz.f108 [] [⟨[0,1,0,1,1,1,1],[28,27,26,3,1],[]⟩]) [] [.at []] ⟨qQ 0 [.agg [.v (.int .i64 c.fx),.v (.int .i64 c.ad),.v (.int .i64 c.ins),.x 0 [],.x 1 [],.x 2 [],.x 3 [],.x 4 []]],[.ext b0 (.s false 7 c.nodes.length (cN c.nodes)),.ext b1 (.s false 1 c.gates.length (cI c.gates)),.ext false (.s false 2 c.looks.length (cL c.looks)),.ext false (.s false 2 c.eqs.length (cK c.eqs)),.ext b4 (.s false 1 dg.length (cI dg))]⟩ K R)=W (bif decide ((0:Int)<IntKind.wrap .i64 ((↑c.6.length:Int)+(↑c.7.length:Int))) then lH c.1 c.2 c.3 c.4.length c.5.length c.6.length c.7.length dg.length (cN c.4) (cI c.5) (cL c.6) (cK c.7) (cI dg) fun(c_1:Cir) (dg_1:List Int)=>lG dg_1.length c.5.length (cI c.5) fun(l:List Int)=>K [.at [0,1,0,1,1,1,1],.blk 0,.at [1,1,1,1,1]] (St.mk [(28,.v (qA 0)),(27,.v (qA (↑c.6.length:Int))),(26,.x 0 []),(3,.v (qA (if(4:Int)<IntKind.wrap .i64 (gtN dg_1 l+(1:Int)) then IntKind.wrap .i64 (gtN dg_1 l+(1:Int)) else(4:Int)))),(1,.p 1 0)] [.ext false (.s false 2 c.6.length (cL c.6)),.cells [.v (qA c.1),.v (qA c.2),.v (qA c.3),.x 2 [],.x 3 [],.x 0 [],.x 4 [],.x 5 []] 171,.ext b0 (.s false 7 c.4.length (cN c.4)),.ext b1 (.s false 1 c.5.length (cI c.5)),.ext false (.s false 2 c.7.length (cK c.7)),.ext b4 (.s false 1 dg.length (cI dg))]) else lH c.1 c.2 c.3 c.4.length c.5.length c.6.length c.7.length dg.length (cN c.4) (cI c.5) (cL c.6) (cK c.7) (cI dg) fun(c_1:Cir) (dg_1:List Int)=>lG dg_1.length c.5.length (cI c.5) fun(l:List Int)=>K [.at [0,1,0,1,1,1,1],.blk 0,.at [1,1,1,1,1]] (St.mk [(28,.v (qA 0)),(27,.v (qA (↑c.6.length:Int))),(26,.x 0 []),(3,.v (qA (if(3:Int)<IntKind.wrap .i64 (gtN dg_1 l+(1:Int)) then IntKind.wrap .i64 (gtN dg_1 l+(1:Int)) else(3:Int)))),(1,.p 1 0)] [.ext false (.s false 2 c.6.length (cL c.6)),.cells [.v (qA c.1),.v (qA c.2),.v (qA c.3),.x 2 [],.x 3 [],.x 0 [],.x 4 [],.x 5 []] 171,.ext b0 (.s false 7 c.4.length (cN c.4)),.ext b1 (.s false 1 c.5.length (cI c.5)),.ext false (.s false 2 c.7.length (cK c.7)),.ext b4 (.s false 1 dg.length (cI dg))])):=by kernel_rfl
theorem qLq(b0 b1 b4:Bool)(c:Cir)(dg:List Int)(hc:c.ok)(ho:qAw c dg)(Q:SV→List HO→Prop)(hq:Q (.v (.int .i64 (qDl c dg))) []):∀(d k:Nat) (m:Int),k+d=c.looks.length→m=(c.looks.take k).foldl (fun d l=>mxI d (2+gtN dg l.1+gtN dg l.2)) (mxI (qAn c) (gtN dg c.gates+1)) →
  FOk Tryz.prog Tryz.f108 Q (.rnd [0,0,1,0,1,1,1,1] (d+1)::[.blk 0,.at [1,1,1,1,1]]) ⟨[(28,.v (.int .i64 (k:Int))),(27,.v (.int .i64 (c.looks.length:Int))),(26,.x 0 []),(3,.v (.int .i64 m)),(1,.p 1 0)],[.ext false (.s false 2 c.looks.length (cL c.looks)),.cells [.v (.int .i64 c.fx),.v (.int .i64 c.ad),.v (.int .i64 c.ins),.x 2 [],.x 3 [],.x 0 [],.x 4 [],.x 5 []] 171,.ext b0 (.s false 7 c.nodes.length (cN c.nodes)),.ext b1 (.s false 1 c.gates.length (cI c.gates)),.ext false (.s false 2 c.eqs.length (cK c.eqs)),.ext b4 (.s false 1 dg.length (cI dg))]⟩
 | 0,k,m,hd,he=>by
  refine FOk.rnd (qC hm 60 ((zQq b0 b1 b4 c dg m k 0 _ _).mpr ⟨?_⟩))
  rw[qD,if_neg (by omega)]
  rw[show k=c.looks.length by omega,List.take_length] at he
  rw[he]
  exact hq
 | d+1,k,m,hd,he=>by
  have hk:k<c.looks.length:=by omega
  have h1:=hc.l.2
  obtain⟨⟨_,g1⟩,⟨_,g2⟩⟩:=hc.l.1 _ (qCt hk)
  obtain⟨o1,o2⟩:=ho.l _ (qCt hk)
  have t1:=qGh ho.d (gL c.looks k).1
  have t2:=qGh ho.d (gL c.looks k).2
  refine FOk.rnd (qC hm 60 ((zQq b0 b1 b4 c dg m k (d+1) _ _).mpr ⟨?_⟩))
  rw[qD,if_pos (by omega),qK _ (by omega)]
  refine aI (aI (aI (aI (qGn c dg hc ⟨⟨_,rfl,IsC.refl _ _ _,by omega,o1,And.intro (fun _=>hk) (qGn c dg hc ⟨⟨_,rfl,IsC.refl _ _ _,by omega,o2,?_⟩⟩)⟩⟩))))
  rw[zE (2+gtN dg (gL c.looks k).1) (by omega),zE (2+gtN dg (gL c.looks k).1+gtN dg (gL c.looks k).2) (by omega)]
  exact qLq b0 b1 b4 c dg hc ho Q hq d (k+1) _ (by omega) (by rw[qIw _ _ hk,← he]; rfl)
theorem zWu:Tryz.f108.body.isSome=true:=by kernel_rfl
theorem zWf(c:Cir):Nat.ble [(.agg [.v (.int .i64 c.fx),.v (.int .i64 c.ad),.v (.int .i64 c.ins),.x 0 [],.x 1 [],.x 2 [],.x 3 [],.x 4 []]:SV)].length Tryz.f108.ntmps=true:=by kernel_rfl
theorem zNo(b0 b1 b4:Bool)(c:Cir)(dg:List Int)(hc:c.ok)(ho:qAw c dg)(Q:SV→List HO→Prop)(hq:Q (.v (.int .i64 (qDl c dg))) []):qI Tryz.prog 108 [.agg [.v (.int .i64 c.fx),.v (.int .i64 c.ad),.v (.int .i64 c.ins),.x 0 [],.x 1 [],.x 2 [],.x 3 [],.x 4 []]] [.ext b0 (.s false 7 c.nodes.length (cN c.nodes)),.ext b1 (.s false 1 c.gates.length (cI c.gates)),.ext false (.s false 2 c.looks.length (cL c.looks)),.ext false (.s false 2 c.eqs.length (cK c.eqs)),.ext b4 (.s false 1 dg.length (cI dg))] Q:=by
 refine qL Tryz.func108 zWu ?_ ?_
 ·exact zWf c
 have h1:=hc.e.2
 have h2:=hc.l.2
 have h3:=hc.g.2
 have t:=qGh ho.d c.gates
 refine qC hm 60 ((zVl b0 b1 b4 c dg _ _).mpr ⟨?_⟩)
 rw[qD,zE ((c.looks.length:Int)+(c.eqs.length:Int)) (by omega)]
 refine qG (fun h=>?_) (fun h=>?_)
 ·refine qGn c dg hc ⟨⟨_,rfl,IsC.refl _ _ _,by omega,ho.g,?_⟩⟩
  rw[zE (gtN dg c.gates+1) (by omega)]
  exact FOk.loop (c.looks.length+1) (by kernel_rfl) (qLq b0 b1 b4 c dg hc ho Q hq c.looks.length 0 _ (by omega) (by rw[show qAn c=4 by rw[qAn,if_pos (by omega)]]; rfl))
 ·refine qGn c dg hc ⟨⟨_,rfl,IsC.refl _ _ _,by omega,ho.g,?_⟩⟩
  rw[zE (gtN dg c.gates+1) (by omega)]
  exact FOk.loop (c.looks.length+1) (by kernel_rfl) (qLq b0 b1 b4 c dg hc ho Q hq c.looks.length 0 _ (by omega) (by rw[show qAn c=3 by rw[qAn,if_neg (by omega)]]; rfl))
noncomputable def zPn:List SV→List HO→Option ((SV→List HO→Prop)→Prop)
 | [.agg [.v (.int .i64 fx),.v (.int .i64 ad),.v (.int .i64 ins),.x 0 [],.x 1 [],.x 2 [],.x 3 [],.x 4 []]],[.ext _ (.s false 7 n0 c0),.ext _ (.s false 1 n1 c1),.ext false (.s false 2 n2 c2),.ext false (.s false 2 n3 c3),.ext _ (.s false 1 n4 c4)]=>some fun Q=>lH fx ad ins n0 n1 n2 n3 n4 c0 c1 c2 c3 c4 fun c dg=>qAw c dg∧Q (.v (.int .i64 (qDl c dg))) []
 | _,_=>none
theorem zFo(args:List SV)(h:List HO)(tr:(SV→List HO→Prop)→Prop)(Q:SV→List HO→Prop)(hc:zPn args h=some tr)(ht:tr Q):qI Tryz.prog 108 args h Q:=by
 unfold zPn at hc
 split at hc
 ·simp only[sI] at hc
  subst hc
  obtain⟨c,dg,rfl,rfl,rfl,⟨rfl,e0⟩,⟨rfl,e1⟩,⟨rfl,e2⟩,⟨rfl,e3⟩,⟨rfl,e4⟩,hk,hq⟩:=ht.h
  exact qI.ac (zNo _ _ _ c dg hk hq.1 Q hq.2) ⟨⟨rfl,rfl,rfl,rfl,e0⟩,⟨rfl,rfl,rfl,rfl,e1⟩,⟨rfl,rfl,rfl,rfl,e2⟩,⟨rfl,rfl,rfl,rfl,e3⟩,⟨rfl,rfl,rfl,rfl,e4⟩,trivial⟩
 ·cases hc
noncomputable def K51:Con Tryz.prog:=K50.add 108 zPn zFo
end Go.Proofs.YtlmjdcbhpffanaaGreat
/- circuit.Degree. -/
namespace Go.Pl
open Go.Sx
def jP(c:Cir):Bool:=qIs c&&!c.gates.any (fun n=>!yJ c n)&&!c.looks.any (fun x=>!jI c x)&&eqF c [] c.eqs&&decide (qDl c (qM c.nodes)≤8)
def wM(c:Cir):Int:=if qAa c.nodes c.fx c.ad c.ins=0 then(if jP c then 0 else 120) else qAa c.nodes c.fx c.ad c.ins
def qWn(c:Cir):Int:=if wM c=0 then qDl c (qM c.nodes) else 0
theorem qNz:∀(l:List Nd) (out:List Int),(∀ z∈out,0≤z∧z≤1000)→∀ z∈qCb out l,0≤z∧z≤1000
 | [],out,h=>h
 | x::r,out,h=>by
  rw[qCb]
  refine qNz r _ fun z hz=>?_
  rcases List.mem_append.1 hz with hz | hz
  ·exact h z hz
  ·rw[List.mem_singleton] at hz
   rw[hz]
   exact qFo h x
theorem qSt(l:List Nd):∀ z∈qM l,0≤z∧z≤1000:=by
 rw[qM]
 split
 ·exact qNz l [] (fun z hz=>by cases hz)
 ·intro z hz; cases hz
theorem qSr{l:List Nd}{f a i:Int}(h:qAa l f a i=0):l.length≤64∧zV 0 l=true:=by
 rw[qAa] at h
 split at h
 ·cases h
 ·rename_i hh
  refine⟨by omega,?_⟩
  cases ho:zV 0 l with
  | true=>rfl
  | false=>exact absurd (.inr (.inl ho)) hh
theorem qGo{l:List Nd}(h:zV 0 l=true):(qM l).length=l.length:=by
 rw[qM,if_pos h,qHm]; simp
theorem qHi{α:Type}{p:α→Bool}{l:List α}(h:l.any (fun n=>!p n)=false):∀ x∈l,p x=true:=by
 intro x hx
 have:=List.any_eq_false.1 h x hx
 simpa using this
theorem qLd{c:Cir}{x:Int}(h:jM c x=true):0≤x∧x<(c.nodes.length:Int):=by
 rw[jM,Bool.and_eq_true,decide_eq_true_eq] at h
 exact h.1
theorem qIv{c:Cir}{x:List Int×List Int}(h:jI c x=true):(∀ g∈x.1,jM c g=true)∧(∀ g∈x.2,jM c g=true)∧1≤x.1.length∧x.1.length≤4∧x.2.length=x.1.length:=by
 simp only[jI,Bool.and_eq_true,Bool.not_eq_true',decide_eq_true_eq] at h
 obtain⟨⟨h1,h2⟩,h3⟩:=h
 exact⟨qHi h2,qHi h3,h1⟩
theorem qTq{c:Cir}(h0:qAa c.nodes c.fx c.ad c.ins=0)(h1:c.gates.any (fun n=>!yJ c n)=false)(h2:c.looks.any (fun x=>!jI c x)=false):qAw c (qM c.nodes) where
 g:=by
  intro g hg
  have:=qHi h1 g hg
  rw[yJ,decide_eq_true_eq] at this
  rw[qGo (qSr h0).2]
  exact this
 l:=by
  intro x hx
  obtain⟨p1,p2,_⟩:=qIv (qHi h2 x hx)
  rw[qGo (qSr h0).2]
  exact⟨fun g hg=>qLd (p1 g hg),fun g hg=>qLd (p2 g hg)⟩
 d:=qSt c.nodes
theorem qTg{c:Cir}(h0:qAa c.nodes c.fx c.ad c.ins=0)(h:jP c=false):wM c=120∧qWn c=0:=by
 have:wM c=120:=by rw[wM,if_pos h0,h]; rfl
 exact⟨this,by rw[qWn,this]; rfl⟩
theorem qOr{c:Cir}(h0:qAa c.nodes c.fx c.ad c.ins=0)(h:jP c=true):wM c=0∧qWn c=qDl c (qM c.nodes):=by
 have:wM c=0:=by rw[wM,if_pos h0,h]; rfl
 exact⟨this,by rw[qWn,this]; rfl⟩
end Go.Pl
namespace Go.Proofs.YtlmjdcbhpffanaaGreat
open Go.Sx Go.Pl
set_option linter.unusedVariables false
set_option maxRecDepth 100000
theorem pdS(b0 b1:Bool)(c:Cir)(K:List It→St→Prop)(R:SV→List HO→Prop):W (xwp Tryz.prog X K51 [(101,[]),(104,[])] 60 (qO Tryz.f66 [] []) [] [.at []] ⟨qQ 0 [.agg [.v (.int .i64 c.fx),.v (.int .i64 c.ad),.v (.int .i64 c.ins),.x 0 [],.x 1 [],.x 2 [],.x 3 []]],[.ext b0 (.s false 7 c.nodes.length (cN c.nodes)),.ext b1 (.s false 1 c.gates.length (cI c.gates)),.ext false (.s false 2 c.looks.length (cL c.looks)),.ext false (.s false 2 c.eqs.length (cK c.eqs))]⟩ K R)=W (∃(l:List Nd),List.length c.4=List.length l∧IsC c.4.length 7 (cN c.4) (cN l)∧List.length l≤4398046511104∧bif !qAa l c.1 c.2 c.3==(0:Int) then R (.tup [.v (qA 0),.v (qA (qAa l c.1 c.2 c.3))]) [] else(∃(l:List Nd),List.length c.4=List.length l∧IsC c.4.length 7 (cN c.4) (cN l)∧List.length l≤4398046511104∧(∀ M:Mem,0+8≤8)∧lH c.1 c.2 c.3 c.4.length c.5.length c.6.length c.7.length (List.length (qM l)) (cN c.4) (cI c.5) (cL c.6) (cK c.7) (cI (qM l)) fun(c_1:Cir) (dg:List Int)=>bif !qIs c_1 then R (.tup [.v (qA 0),.v (qA 120)]) [] else lI c.5.length (cI c.5) fun(l_1:List Int)=>lKc (lc 8 [.v (qA c.1),.v (qA c.2),.v (qA c.3),.s false 7 c.4.length (cN c.4),.s false 1 c.5.length (cI c.5),.s false 2 c.6.length (cL c.6),.s false 2 c.7.length (cK c.7),.s false 1 (List.length (qM l)) (cI (qM l))]) fun(c_2:Cir) (dg:List Int)=>bif decide ((0:Int)≤zB (fun(n:Int)=>!yJ c_2 n) 0 l_1) then R (.tup [.v (qA 0),.v (qA 120)]) [] else lLk c.6.length (cL c.6) fun(l_2:List (List Int×List Int))=>lKc (lc 8 [.v (qA c.1),.v (qA c.2),.v (qA c.3),.s false 7 c.4.length (cN c.4),.s false 1 c.5.length (cI c.5),.s false 2 c.6.length (cL c.6),.s false 2 c.7.length (cK c.7),.s false 1 (List.length (qM l)) (cI (qM l))]) fun(c_3:Cir) (dg:List Int)=>bif decide ((0:Int)≤zB (fun(x:List Int×List Int)=>!jI c_3 x) 0 l_2) then R (.tup [.v (qA 0),.v (qA 120)]) [] else lH c.1 c.2 c.3 c.4.length c.5.length c.6.length c.7.length (List.length (qM l)) (cN c.4) (cI c.5) (cL c.6) (cK c.7) (cI (qM l)) fun(c_4:Cir) (dg:List Int)=>bif !eqF c_4 [] c_4.7 then R (.tup [.v (qA 0),.v (qA 120)]) [] else lH c.1 c.2 c.3 c.4.length c.5.length c.6.length c.7.length (List.length (qM l)) (cN c.4) (cI c.5) (cL c.6) (cK c.7) (cI (qM l)) fun(c_5:Cir) (dg:List Int)=>qAw c_5 dg∧bif decide ((8:Int)<qDl c_5 dg) then R (.tup [.v (qA 0),.v (qA 120)]) [] else lH c.1 c.2 c.3 c.4.length c.5.length c.6.length c.7.length (List.length (qM l)) (cN c.4) (cI c.5) (cL c.6) (cK c.7) (cI (qM l)) fun(c:Cir) (dg:List Int)=>qAw c dg∧R (.tup [.v (qA (qDl c dg)),.v (qA 0)]) [])∧∃(l:List Nd),List.length c.4=List.length l∧IsC c.4.length 7 (cN c.4) (cN l)∧List.length l≤4398046511104∧(∀ M:Mem,0+8≤8)∧lH c.1 c.2 c.3 c.4.length c.5.length c.6.length c.7.length (List.length (qM l)) (cN c.4) (cI c.5) (cL c.6) (cK c.7) (cI (qM l)) fun(c_1:Cir) (dg:List Int)=>bif !qIs c_1 then R (.tup [.v (qA 0),.v (qA 120)]) [] else lI c.5.length (cI c.5) fun(l_1:List Int)=>lKc (lc 8 [.v (qA c.1),.v (qA c.2),.v (qA c.3),.s false 7 c.4.length (cN c.4),.s false 1 c.5.length (cI c.5),.s false 2 c.6.length (cL c.6),.s false 2 c.7.length (cK c.7),.s false 1 (List.length (qM l)) (cI (qM l))]) fun(c_2:Cir) (dg:List Int)=>bif decide ((0:Int)≤zB (fun(n:Int)=>!yJ c_2 n) 0 l_1) then R (.tup [.v (qA 0),.v (qA 120)]) [] else lLk c.6.length (cL c.6) fun(l_2:List (List Int×List Int))=>lKc (lc 8 [.v (qA c.1),.v (qA c.2),.v (qA c.3),.s false 7 c.4.length (cN c.4),.s false 1 c.5.length (cI c.5),.s false 2 c.6.length (cL c.6),.s false 2 c.7.length (cK c.7),.s false 1 (List.length (qM l)) (cI (qM l))]) fun(c_3:Cir) (dg:List Int)=>bif decide ((0:Int)≤zB (fun(x:List Int×List Int)=>!jI c_3 x) 0 l_2) then R (.tup [.v (qA 0),.v (qA 120)]) [] else lH c.1 c.2 c.3 c.4.length c.5.length c.6.length c.7.length (List.length (qM l)) (cN c.4) (cI c.5) (cL c.6) (cK c.7) (cI (qM l)) fun(c_4:Cir) (dg:List Int)=>bif !eqF c_4 [] c_4.7 then R (.tup [.v (qA 0),.v (qA 120)]) [] else lH c.1 c.2 c.3 c.4.length c.5.length c.6.length c.7.length (List.length (qM l)) (cN c.4) (cI c.5) (cL c.6) (cK c.7) (cI (qM l)) fun(c_5:Cir) (dg:List Int)=>qAw c_5 dg∧bif decide ((8:Int)<qDl c_5 dg) then R (.tup [.v (qA 0),.v (qA 120)]) [] else lH c.1 c.2 c.3 c.4.length c.5.length c.6.length c.7.length (List.length (qM l)) (cN c.4) (cI c.5) (cL c.6) (cK c.7) (cI (qM l)) fun(c:Cir) (dg:List Int)=>qAw c dg∧R (.tup [.v (qA (qDl c dg)),.v (qA 0)]) []):=by kernel_rfl
theorem bPd:Tryz.f66.body.isSome=true:=by kernel_rfl
theorem nPd(c:Cir):Nat.ble [(.agg [.v (.int .i64 c.fx),.v (.int .i64 c.ad),.v (.int .i64 c.ins),.x 0 [],.x 1 [],.x 2 [],.x 3 []]:SV)].length Tryz.f66.ntmps=true:=by kernel_rfl
theorem zSy(b0 b1:Bool)(c:Cir)(hc:c.ok)(Q:SV→List HO→Prop)(hq:Q (.tup [.v (.int .i64 (qWn c)),.v (.int .i64 (wM c))]) []):qI Tryz.prog 66 [.agg [.v (.int .i64 c.fx),.v (.int .i64 c.ad),.v (.int .i64 c.ins),.x 0 [],.x 1 [],.x 2 [],.x 3 []]] [.ext b0 (.s false 7 c.nodes.length (cN c.nodes)),.ext b1 (.s false 1 c.gates.length (cI c.gates)),.ext false (.s false 2 c.looks.length (cL c.looks)),.ext false (.s false 2 c.eqs.length (cK c.eqs))] Q:=by
 refine qL Tryz.func66 bPd ?_ ?_
 ·exact nPd c
 have h1:=hc.n.2
 have h2:=hc.g.2
 have h3:=hc.l.2
 refine qC hm 60 ((pdS b0 b1 c _ _).mpr ⟨?_⟩)
 refine⟨c.nodes,rfl,IsC.refl _ _ _,by omega,?_⟩
 simp only[qD,qV,zC]
 refine qG (fun h0=>?_) (fun h0=>?_)
 ·have no:jP c=false→Q (.tup [.v (.int .i64 0),.v (.int .i64 120)]) []:=fun h=>by
   obtain⟨e1,e2⟩:=qTg h0 h
   rw[e1,e2] at hq
   exact hq
  have yes:jP c=true→Q (.tup [.v (.int .i64 (qDl c (qM c.nodes))),.v (.int .i64 0)]) []:=fun h=>by
   obtain⟨e1,e2⟩:=qOr h0 h
   rw[e1,e2] at hq
   exact hq
  have lk:∀ x∈c.looks,x.1.length*8≤140737488351232∧x.2.length*8≤140737488351232:=fun x hx=>⟨(hc.l.1 x hx).1.2,(hc.l.1 x hx).2.2⟩
  refine And.intro ?_ ?_
  all_goals
   refine⟨c.nodes,rfl,IsC.refl _ _ _,by omega,aI (qGn c _ hc (qJ (fun a1=>?_) (fun a1=>no ?_)))⟩
   ·refine⟨⟨c.gates,rfl,IsC.refl _ _ _,by omega,qRx c _ hc (qG (fun a2=>no ?_) (fun a2=>?_))⟩⟩
    ·rw[jP,← jC (fun n=>!yJ c n) c.gates 0,decide_eq_true a2]; simp
    ·have a2':c.gates.any (fun n=>!yJ c n)=false:=by rw[← jC _ c.gates 0,decide_eq_false a2]
     refine⟨⟨c.looks,rfl,IsC.refl _ _ _,h3,lk,qRx c _ hc (qG (fun a3=>no ?_) (fun a3=>?_))⟩⟩
     ·rw[jP,← jC (fun x=>!jI c x) c.looks 0,decide_eq_true a3]; simp
     ·have a3':c.looks.any (fun x=>!jI c x)=false:=by rw[← jC _ c.looks 0,decide_eq_false a3]
      have ho:=qTq h0 a2' a3'
      refine qGn c _ hc (qJ (fun a4=>?_) (fun a4=>no ?_))
      ·refine qGn c _ hc ⟨ho,qG (fun a5=>no ?_) (fun a5=>qGn c _ hc ⟨ho,yes ?_⟩)⟩
       ·rw[jP,decide_eq_false (by omega)]; simp
       ·rw[jP,a1,a2',a3',a4,decide_eq_true (by omega)]; rfl
      ·rw[jP,a4]; simp
   ·rw[jP,a1]; rfl
 ·have e1:wM c=qAa c.nodes c.fx c.ad c.ins:=by rw[wM,if_neg h0]
  rw[qWn,e1,if_neg h0] at hq
  exact hq
noncomputable def gPd:List SV→List HO→Option ((SV→List HO→Prop)→Prop)
 | [.agg [.v (.int .i64 fx),.v (.int .i64 ad),.v (.int .i64 ins),.x 0 [],.x 1 [],.x 2 [],.x 3 []]],[.ext _ (.s false 7 n0 c0),.ext _ (.s false 1 n1 c1),.ext false (.s false 2 n2 c2),.ext false (.s false 2 n3 c3)] =>
  some fun Q=>lC fx ad ins n0 n1 n2 n3 c0 c1 c2 c3 fun c=>Q (.tup [.v (.int .i64 (qWn c)),.v (.int .i64 (wM c))]) []
 | _,_=>none
theorem zNu(args:List SV)(h:List HO)(tr:(SV→List HO→Prop)→Prop)(Q:SV→List HO→Prop)(hc:gPd args h=some tr)(ht:tr Q):qI Tryz.prog 66 args h Q:=by
 unfold gPd at hc
 split at hc
 ·simp only[sI] at hc
  subst hc
  obtain⟨c,rfl,rfl,rfl,⟨rfl,e0⟩,⟨rfl,e1⟩,⟨rfl,e2⟩,⟨rfl,e3⟩,hk,hq⟩:=ht.h
  exact qI.ac (zSy _ _ c hk Q hq) ⟨⟨rfl,rfl,rfl,rfl,e0⟩,⟨rfl,rfl,rfl,rfl,e1⟩,⟨rfl,rfl,rfl,rfl,e2⟩,⟨rfl,rfl,rfl,rfl,e3⟩,trivial⟩
 ·cases hc
noncomputable def K52:Con Tryz.prog:=K51.add 66 gPd zNu
end Go.Proofs.YtlmjdcbhpffanaaGreat
/- Usable rows. -/
namespace Go.Pl
open Go.Sx
def usN(k:Int):Int:=if k<2 then 0 else if 30<k then 0 else 2^k.toNat-4
theorem zFk{k:Int}(h1:2≤k)(h2:k≤30):(4:Int)≤2^k.toNat∧(2:Int)^k.toNat≤1073741824:=by
 have e1:(2:Nat)^2≤2^k.toNat:=Nat.pow_le_pow_right (by omega) (by omega)
 have e2:(2:Nat)^k.toNat≤2^30:=Nat.pow_le_pow_right (by omega) (by omega)
 have e3:((2^k.toNat:Nat):Int)=(2:Int)^k.toNat:=by push_cast; rfl
 omega
theorem zIu{k:Int}(h1:2≤k)(h2:k≤30):IntKind.wrap IntKind.i64 (IntKind.wrap IntKind.i64 ((1:Int)*(2:Int)^(if Int.toNat k≤64 then Int.toNat k else 64))-(4:Int))=usN k:=by
 obtain⟨p1,p2⟩:=zFk h1 h2
 rw[if_pos (by omega),Int.one_mul,zE (2^k.toNat) (by omega),zE (2^k.toNat-4) (by omega),usN,if_neg (by omega),if_neg (by omega)]
end Go.Pl
namespace Go.Proofs.YtlmjdcbhpffanaaGreat
open Go.Sx Go.Pl
set_option linter.unusedVariables false
set_option maxRecDepth 100000
theorem usS(k:Int)(K:List It→St→Prop)(R:SV→List HO→Prop):W (xwp Tryz.prog X K52 [] 60 (qO Tryz.f37 [] []) [] [.at []] ⟨qQ 0 [.v (.int .i64 k)],[]⟩ K R)=W (bif decide (k<(2:Int)) then R (.v (qA 0)) [] else bif decide ((30:Int)<k) then R (.v (qA 0)) [] else(∀ M:Mem,¬k<(0:Int))∧R (.v (qA (IntKind.wrap .i64 (IntKind.wrap .i64 ((1:Int)*(2:Int)^if Int.toNat k≤64 then Int.toNat k else 64)-(4:Int))))) []):=by kernel_rfl
theorem urS(k:Int)(K:List It→St→Prop)(R:SV→List HO→Prop):W (xwp Tryz.prog X K52 [] 60 (qO Tryz.f40 [] []) [] [.at []] ⟨qQ 0 [.v (.int .i64 k)],[]⟩ K R)=W (bif decide (k<(2:Int)) then R (.v (qA 0)) [] else bif decide ((30:Int)<k) then R (.v (qA 0)) [] else(∀ M:Mem,¬IntKind.wrap IntKind.u64 k<(0:Int))∧R (.v (qA (IntKind.wrap .i64 (IntKind.wrap .i64 ((1:Int)*(2:Int)^if Int.toNat (IntKind.wrap IntKind.u64 k)≤64 then Int.toNat (IntKind.wrap IntKind.u64 k) else 64)-(4:Int))))) []):=by kernel_rfl
theorem bus:Tryz.f37.body.isSome=true:=by kernel_rfl
theorem nus(k:Int):Nat.ble [SV.v (.int .i64 k)].length Tryz.f37.ntmps=true:=by kernel_rfl
theorem zSm(k:Int)(Q:SV→List HO→Prop)(hq:Q (.v (.int .i64 (usN k))) []):qI Tryz.prog 37 [.v (.int .i64 k)] [] Q:=by
 refine qL Tryz.func37 bus ?_ ?_
 ·exact nus k
 refine qC hm 60 ((usS k _ _).mpr ⟨?_⟩)
 simp only[qD]
 refine qG (fun h=>?_) (fun h=>qG (fun h2=>?_) (fun h2=>?_))
 ·rw[usN,if_pos h] at hq
  exact hq
 ·rw[usN,if_neg h,if_pos h2] at hq
  exact hq
 ·refine And.intro (fun _=>by omega) ?_
  rw[zIu (by omega) (by omega)]
  exact hq
noncomputable def zMl:List SV→List HO→Option ((SV→List HO→Prop)→Prop)
 | [.v (.int .i64 k)],[]=>some fun Q=>Q (.v (.int .i64 (usN k))) []
 | _,_=>none
theorem zGs(args:List SV)(h:List HO)(tr:(SV→List HO→Prop)→Prop)(Q:SV→List HO→Prop)(hc:zMl args h=some tr)(ht:tr Q):qI Tryz.prog 37 args h Q:=by
 unfold zMl at hc
 split at hc
 ·simp only[sI] at hc
  subst hc
  exact zSm _ Q ht
 ·cases hc
theorem bur:Tryz.f40.body.isSome=true:=by kernel_rfl
theorem nur(k:Int):Nat.ble [SV.v (.int .i64 k)].length Tryz.f40.ntmps=true:=by kernel_rfl
theorem zSv(k:Int)(Q:SV→List HO→Prop)(hq:Q (.v (.int .i64 (usN k))) []):qI Tryz.prog 40 [.v (.int .i64 k)] [] Q:=by
 refine qL Tryz.func40 bur ?_ ?_
 ·exact nur k
 refine qC hm 60 ((urS k _ _).mpr ⟨?_⟩)
 simp only[qD]
 refine qG (fun h=>?_) (fun h=>qG (fun h2=>?_) (fun h2=>?_))
 ·rw[usN,if_pos h] at hq
  exact hq
 ·rw[usN,if_neg h,if_pos h2] at hq
  exact hq
 ·have e:IntKind.wrap .u64 k=k:=by rw[qVk]; omega
  rw[e]
  refine And.intro (fun _=>by omega) ?_
  rw[zIu (by omega) (by omega)]
  exact hq
noncomputable def zNy:List SV→List HO→Option ((SV→List HO→Prop)→Prop)
 | [.v (.int .i64 k)],[]=>some fun Q=>Q (.v (.int .i64 (usN k))) []
 | _,_=>none
theorem zGu(args:List SV)(h:List HO)(tr:(SV→List HO→Prop)→Prop)(Q:SV→List HO→Prop)(hc:zNy args h=some tr)(ht:tr Q):qI Tryz.prog 40 args h Q:=by
 unfold zNy at hc
 split at hc
 ·simp only[sI] at hc
  subst hc
  exact zSv _ Q ht
 ·cases hc
noncomputable def K53:Con Tryz.prog:=(K52.add 37 zMl zGs).add 40 zNy zGu
end Go.Proofs.YtlmjdcbhpffanaaGreat
/- circuit.Rows. -/
namespace Go.Pl
open Go.Sx
end Go.Pl
namespace Go.Proofs.YtlmjdcbhpffanaaGreat
open Go.Sx Go.Pl
set_option linter.unusedVariables false
set_option maxRecDepth 100000
noncomputable def K54:Con Tryz.prog:=K53
end Go.Proofs.YtlmjdcbhpffanaaGreat
/- The degree, by the document. -/
namespace Go.Pl
open Go.Sx
theorem qHd{dg l:List Int}{k:Nat}{a:Int}(h:k<l.length)(ha:a=gtN dg (l.take k))(hp:a<gI dg (gI l k).toNat):gI dg (gI l k).toNat=gtN dg (l.take (k+1)):=by
 rw[qHb h,← ha,if_pos hp]
theorem qHq{dg l:List Int}{k:Nat}{a:Int}(h:k<l.length)(ha:a=gtN dg (l.take k))(hp:¬ a<gI dg (gI l k).toNat):a=gtN dg (l.take (k+1)):=by
 rw[qHb h,← ha,if_neg hp]
theorem qZi{a b:Int}(h:a<b):mxI a b=b:=if_pos h
theorem qZq{a b:Int}(h:¬ a<b):mxI a b=a:=if_neg h
theorem zBw{dg l:List Int}{k:Nat}(h:k<l.length)(a:Int):mxI a (gtN dg (l.take (k+1))+1)=mxI (mxI a (gtN dg (l.take k)+1)) (gI dg (gI l k).toNat+1):=by
 rw[qHb h]
 simp only[mxI]
 repeat' split
 all_goals omega
end Go.Pl
namespace Go.Proofs.YtlmjdcbhpffanaaGreat
open Go.Sx Go.Pl
set_option linter.unusedVariables false
set_option maxRecDepth 100000
theorem zXh(c:Cir)(K:List It→St→Prop)(R:SV→List HO→Prop):W (xwp Tryz.prog X K54 [] 60 (qO Tryz.f78 [] [⟨[0,1,0,1,1,1,1],[5,4,3,1],[]⟩,⟨[0,1,0,1,1,1,1,1],[6,4,3,1],[]⟩,⟨[0,1,0,1,1,0,0,1,0,0,1,0,1,1,1,1,1],[9,7,8,6,4,3,1],[]⟩]) [] [.at []] ⟨qQ 0 [.agg [.v (.int .i64 c.fx),.v (.int .i64 c.ad),.v (.int .i64 c.ins),.x 0 [],.x 1 [],.x 2 [],.x 3 []]],[.ext false (.s false 7 c.nodes.length (cN c.nodes)),.ext false (.s false 1 c.gates.length (cI c.gates)),.ext false (.s false 2 c.looks.length (cL c.looks)),.ext false (.s false 2 c.eqs.length (cK c.eqs))]⟩ K R)=W (∃(l:List Nd),List.length c.4=List.length l∧IsC c.4.length 7 (cN c.4) (cN l)∧List.length l≤4000000000000∧bif decide ((0:Int)<(↑c.6.length:Int)) then K [.at [0,1,0,1,1,1,1],.blk 0,.at [1,1,1,1,1]] (St.mk [(5,.v (qA 0)),(4,.v (qA 4)),(3,.o 0),(1,.p 1 0)] [.rowc 3 1 (List.length (qM l)) (.fn (cI (qM l))),.cells [.v (qA c.1),.v (qA c.2),.v (qA c.3),.x 2 [],.x 3 [],.x 4 [],.x 5 []] 27,.ext false (.s false 7 c.4.length (cN c.4)),.ext false (.s false 1 c.5.length (cI c.5)),.ext false (.s false 2 c.6.length (cL c.6)),.ext false (.s false 2 c.7.length (cK c.7))]) else bif decide ((0:Int)<(↑c.7.length:Int)) then K [.at [0,1,0,1,1,1,1],.blk 0,.at [1,1,1,1,1]] (St.mk [(5,.v (qA 0)),(4,.v (qA 4)),(3,.o 0),(1,.p 1 0)] [.rowc 3 1 (List.length (qM l)) (.fn (cI (qM l))),.cells [.v (qA c.1),.v (qA c.2),.v (qA c.3),.x 2 [],.x 3 [],.x 4 [],.x 5 []] 27,.ext false (.s false 7 c.4.length (cN c.4)),.ext false (.s false 1 c.5.length (cI c.5)),.ext false (.s false 2 c.6.length (cL c.6)),.ext false (.s false 2 c.7.length (cK c.7))]) else K [.at [0,1,0,1,1,1,1],.blk 0,.at [1,1,1,1,1]] (St.mk [(5,.v (qA 0)),(4,.v (qA 3)),(3,.o 0),(1,.p 1 0)] [.rowc 3 1 (List.length (qM l)) (.fn (cI (qM l))),.cells [.v (qA c.1),.v (qA c.2),.v (qA c.3),.x 2 [],.x 3 [],.x 4 [],.x 5 []] 27,.ext false (.s false 7 c.4.length (cN c.4)),.ext false (.s false 1 c.5.length (cI c.5)),.ext false (.s false 2 c.6.length (cL c.6)),.ext false (.s false 2 c.7.length (cK c.7))])):=by kernel_rfl
theorem zTj(c:Cir)(dg:List Int)(m:Int)(k M:Nat)(K:List It→St→Prop)(R:SV→List HO→Prop):W (xwp Tryz.prog X K54 [] 60 (qO Tryz.f78 [] [⟨[0,1,0,1,1,1,1],[5,4,3,1],[]⟩,⟨[0,1,0,1,1,1,1,1],[6,4,3,1],[]⟩,⟨[0,1,0,1,1,0,0,1,0,0,1,0,1,1,1,1,1],[9,7,8,6,4,3,1],[]⟩]) [] (.at [0,0,1,0,1,1,1,1]::.rnd [0,0,1,0,1,1,1,1] M::[.blk 0,.at [1,1,1,1,1]]) ⟨[(5,.v (.int .i64 (k:Int))),(4,.v (.int .i64 m)),(3,.o 0),(1,.p 1 0)],[.rowc 3 1 dg.length (.fn (cI dg)),.cells [.v (.int .i64 c.fx),.v (.int .i64 c.ad),.v (.int .i64 c.ins),.x 2 [],.x 3 [],.x 4 [],.x 5 []] 27,.ext false (.s false 7 c.nodes.length (cN c.nodes)),.ext false (.s false 1 c.gates.length (cI c.gates)),.ext false (.s false 2 c.looks.length (cL c.looks)),.ext false (.s false 2 c.eqs.length (cK c.eqs))]⟩ K R)=W (bif decide ((↑k:Int)<(↑c.5.length:Int)) then(∀ M:Mem,(0:Int)≤(↑k:Int)∧(↑k:Int)<(↑c.5.length:Int))∧(∀ M:Mem,k<List.length c.5)∧(∀ M:Mem,(0:Int)≤gI c.5 k∧gI c.5 k<(↑dg.length:Int))∧(∀ M:Mem,Int.toNat (gI c.5 k)<List.length dg)∧bif decide (m<IntKind.wrap .i64 (gI dg (Int.toNat (gI c.5 k))+(1:Int))) then(∀ M:Mem,(0:Int)≤(↑k:Int)∧(↑k:Int)<(↑c.5.length:Int))∧(∀ M:Mem,k<List.length c.5)∧(∀ M:Mem,(0:Int)≤gI c.5 k∧gI c.5 k<(↑dg.length:Int))∧(∀ M:Mem,Int.toNat (gI c.5 k)<List.length dg)∧K [.rnd [0,0,1,0,1,1,1,1] M,.blk 0,.at [1,1,1,1,1]] (St.mk [(5,.v (qA (IntKind.wrap .i64 ((↑k:Int)+(1:Int))))),(4,.v (qA (IntKind.wrap .i64 (gI dg (Int.toNat (gI c.5 k))+(1:Int))))),(3,.o 0),(1,.p 1 0)] [.rowc 3 1 dg.length (.fn (cI dg)),.cells [.v (qA c.1),.v (qA c.2),.v (qA c.3),.x 2 [],.x 3 [],.x 4 [],.x 5 []] 27,.ext false (.s false 7 c.4.length (cN c.4)),.ext false (.s false 1 c.5.length (cI c.5)),.ext false (.s false 2 c.6.length (cL c.6)),.ext false (.s false 2 c.7.length (cK c.7))]) else K [.rnd [0,0,1,0,1,1,1,1] M,.blk 0,.at [1,1,1,1,1]] (St.mk [(5,.v (qA (IntKind.wrap .i64 ((↑k:Int)+(1:Int))))),(4,.v (qA m)),(3,.o 0),(1,.p 1 0)] [.rowc 3 1 dg.length (.fn (cI dg)),.cells [.v (qA c.1),.v (qA c.2),.v (qA c.3),.x 2 [],.x 3 [],.x 4 [],.x 5 []] 27,.ext false (.s false 7 c.4.length (cN c.4)),.ext false (.s false 1 c.5.length (cI c.5)),.ext false (.s false 2 c.6.length (cL c.6)),.ext false (.s false 2 c.7.length (cK c.7))]) else K [.at [0,1,0,1,1,1,1,1],.blk 2,.at [1,1,1,1,1,1]] (St.mk [(6,.v (qA 0)),(4,.v (qA m)),(3,.o 0),(1,.p 1 0)] [.rowc 3 1 dg.length (.fn (cI dg)),.cells [.v (qA c.1),.v (qA c.2),.v (qA c.3),.x 2 [],.x 3 [],.x 4 [],.x 5 []] 27,.ext false (.s false 7 c.4.length (cN c.4)),.ext false (.s false 1 c.5.length (cI c.5)),.ext false (.s false 2 c.6.length (cL c.6)),.ext false (.s false 2 c.7.length (cK c.7))])):=by kernel_rfl
theorem zRj(c:Cir)(dg:List Int)(m:Int)(k M:Nat)(K:List It→St→Prop)(R:SV→List HO→Prop):W (xwp Tryz.prog X K54 [] 60 (qO Tryz.f78 [] [⟨[0,1,0,1,1,1,1],[5,4,3,1],[]⟩,⟨[0,1,0,1,1,1,1,1],[6,4,3,1],[]⟩,⟨[0,1,0,1,1,0,0,1,0,0,1,0,1,1,1,1,1],[9,7,8,6,4,3,1],[]⟩]) [] (.at [0,0,1,0,1,1,1,1,1]::.rnd [0,0,1,0,1,1,1,1,1] M::[.blk 2,.at [1,1,1,1,1,1]]) ⟨[(6,.v (.int .i64 (k:Int))),(4,.v (.int .i64 m)),(3,.o 0),(1,.p 1 0)],[.rowc 3 1 dg.length (.fn (cI dg)),.cells [.v (.int .i64 c.fx),.v (.int .i64 c.ad),.v (.int .i64 c.ins),.x 2 [],.x 3 [],.x 4 [],.x 5 []] 27,.ext false (.s false 7 c.nodes.length (cN c.nodes)),.ext false (.s false 1 c.gates.length (cI c.gates)),.ext false (.s false 2 c.looks.length (cL c.looks)),.ext false (.s false 2 c.eqs.length (cK c.eqs))]⟩ K R)=W (bif decide ((↑k:Int)<(↑c.6.length:Int)) then K [.at [0,1,0,1,1,0,0,1,0,0,1,0,1,1,1,1,1],.blk 4,.at [1,1,1,0,0,1,0,0,1,0,1,1,1,1,1],.blk 3,.at [1,1,0,0,1,0,1,1,1,1,1],.rnd [0,0,1,0,1,1,1,1,1] M,.blk 2,.at [1,1,1,1,1,1]] (St.mk [(9,.v (qA 0)),(7,.v (qA 0)),(8,.v (qA 0)),(6,.v (qA (↑k:Int))),(4,.v (qA m)),(3,.o 0),(1,.p 1 0)] [.rowc 3 1 dg.length (.fn (cI dg)),.cells [.v (qA c.1),.v (qA c.2),.v (qA c.3),.x 2 [],.x 3 [],.x 4 [],.x 5 []] 27,.ext false (.s false 7 c.4.length (cN c.4)),.ext false (.s false 1 c.5.length (cI c.5)),.ext false (.s false 2 c.6.length (cL c.6)),.ext false (.s false 2 c.7.length (cK c.7))]) else R (.v (qA m)) []):=by kernel_rfl
theorem zRr(c:Cir)(dg:List Int)(a b m:Int)(i k M2 M:Nat)(K:List It→St→Prop)(R:SV→List HO→Prop):W (xwp Tryz.prog X K54 [] 60 (qO Tryz.f78 [] [⟨[0,1,0,1,1,1,1],[5,4,3,1],[]⟩,⟨[0,1,0,1,1,1,1,1],[6,4,3,1],[]⟩,⟨[0,1,0,1,1,0,0,1,0,0,1,0,1,1,1,1,1],[9,7,8,6,4,3,1],[]⟩]) [] (.at [0,0,1,0,1,1,0,0,1,0,0,1,0,1,1,1,1,1]::.rnd [0,0,1,0,1,1,0,0,1,0,0,1,0,1,1,1,1,1] M::[.blk 4,.at [1,1,1,0,0,1,0,0,1,0,1,1,1,1,1],.blk 3,.at [1,1,0,0,1,0,1,1,1,1,1],.rnd [0,0,1,0,1,1,1,1,1] M2,.blk 2,.at [1,1,1,1,1,1]]) ⟨[(9,.v (.int .i64 (k:Int))),(7,.v (.int .i64 a)),(8,.v (.int .i64 b)),(6,.v (.int .i64 (i:Int))),(4,.v (.int .i64 m)),(3,.o 0),(1,.p 1 0)],[.rowc 3 1 dg.length (.fn (cI dg)),.cells [.v (.int .i64 c.fx),.v (.int .i64 c.ad),.v (.int .i64 c.ins),.x 2 [],.x 3 [],.x 4 [],.x 5 []] 27,.ext false (.s false 7 c.nodes.length (cN c.nodes)),.ext false (.s false 1 c.gates.length (cI c.gates)),.ext false (.s false 2 c.looks.length (cL c.looks)),.ext false (.s false 2 c.eqs.length (cK c.eqs))]⟩ K R)=W ((∀ M:Mem,(0:Int)≤(↑i:Int)∧(↑i:Int)<(↑c.6.length:Int))∧(∀ M:Mem,i<List.length c.6)∧(∀ M:Mem,i<List.length c.6)∧(∀ M:Mem,i<List.length c.6)∧bif decide ((↑k:Int)<(↑(List.length (gL c.6 i).1):Int)) then(∀ M:Mem,(0:Int)≤(↑i:Int)∧(↑i:Int)<(↑c.6.length:Int))∧(∀ M:Mem,i<List.length c.6)∧(∀ M:Mem,i<List.length c.6)∧(∀ M:Mem,i<List.length c.6)∧(∀ M:Mem,(0:Int)≤(↑k:Int)∧(↑k:Int)<(↑(List.length (gL c.6 i).1):Int))∧(∀ M:Mem,i<List.length c.6)∧(∀ M:Mem,k<List.length (gL c.6 i).1)∧(∀ M:Mem,(0:Int)≤gI (gL c.6 i).1 k∧gI (gL c.6 i).1 k<(↑dg.length:Int))∧(∀ M:Mem,Int.toNat (gI (gL c.6 i).1 k)<List.length dg)∧bif decide (a<gI dg (Int.toNat (gI (gL c.6 i).1 k))) then(∀ M:Mem,(0:Int)≤(↑i:Int)∧(↑i:Int)<(↑c.6.length:Int))∧(∀ M:Mem,i<List.length c.6)∧(∀ M:Mem,i<List.length c.6)∧(∀ M:Mem,i<List.length c.6)∧(∀ M:Mem,(0:Int)≤(↑k:Int)∧(↑k:Int)<(↑(List.length (gL c.6 i).1):Int))∧(∀ M:Mem,i<List.length c.6)∧(∀ M:Mem,k<List.length (gL c.6 i).1)∧(∀ M:Mem,(0:Int)≤gI (gL c.6 i).1 k∧gI (gL c.6 i).1 k<(↑dg.length:Int))∧(∀ M:Mem,Int.toNat (gI (gL c.6 i).1 k)<List.length dg)∧(∀ M:Mem,(0:Int)≤(↑i:Int)∧(↑i:Int)<(↑c.6.length:Int))∧(∀ M:Mem,i<List.length c.6)∧(∀ M:Mem,i<List.length c.6)∧(∀ M:Mem,i<List.length c.6)∧(∀ M:Mem,(0:Int)≤(↑k:Int)∧(↑k:Int)<(↑(List.length (gL c.6 i).2):Int))∧(∀ M:Mem,i<List.length c.6)∧(∀ M:Mem,k<List.length (gL c.6 i).2)∧(∀ M:Mem,(0:Int)≤gI (gL c.6 i).2 k∧gI (gL c.6 i).2 k<(↑dg.length:Int))∧(∀ M:Mem,Int.toNat (gI (gL c.6 i).2 k)<List.length dg)∧bif decide (b<gI dg (Int.toNat (gI (gL c.6 i).2 k))) then(∀ M:Mem,(0:Int)≤(↑i:Int)∧(↑i:Int)<(↑c.6.length:Int))∧(∀ M:Mem,i<List.length c.6)∧(∀ M:Mem,i<List.length c.6)∧(∀ M:Mem,i<List.length c.6)∧(∀ M:Mem,(0:Int)≤(↑k:Int)∧(↑k:Int)<(↑(List.length (gL c.6 i).2):Int))∧(∀ M:Mem,i<List.length c.6)∧(∀ M:Mem,k<List.length (gL c.6 i).2)∧(∀ M:Mem,(0:Int)≤gI (gL c.6 i).2 k∧gI (gL c.6 i).2 k<(↑dg.length:Int))∧(∀ M:Mem,Int.toNat (gI (gL c.6 i).2 k)<List.length dg)∧K [.rnd [0,0,1,0,1,1,0,0,1,0,0,1,0,1,1,1,1,1] M,.blk 4,.at [1,1,1,0,0,1,0,0,1,0,1,1,1,1,1],.blk 3,.at [1,1,0,0,1,0,1,1,1,1,1],.rnd [0,0,1,0,1,1,1,1,1] M2,.blk 2,.at [1,1,1,1,1,1]] (St.mk [(9,.v (qA (IntKind.wrap .i64 ((↑k:Int)+(1:Int))))),(7,.v (qA (gI dg (Int.toNat (gI (gL c.6 i).1 k))))),(8,.v (qA (gI dg (Int.toNat (gI (gL c.6 i).2 k))))),(6,.v (qA (↑i:Int))),(4,.v (qA m)),(3,.o 0),(1,.p 1 0)] [.rowc 3 1 dg.length (.fn (cI dg)),.cells [.v (qA c.1),.v (qA c.2),.v (qA c.3),.x 2 [],.x 3 [],.x 4 [],.x 5 []] 27,.ext false (.s false 7 c.4.length (cN c.4)),.ext false (.s false 1 c.5.length (cI c.5)),.ext false (.s false 2 c.6.length (cL c.6)),.ext false (.s false 2 c.7.length (cK c.7))]) else K [.rnd [0,0,1,0,1,1,0,0,1,0,0,1,0,1,1,1,1,1] M,.blk 4,.at [1,1,1,0,0,1,0,0,1,0,1,1,1,1,1],.blk 3,.at [1,1,0,0,1,0,1,1,1,1,1],.rnd [0,0,1,0,1,1,1,1,1] M2,.blk 2,.at [1,1,1,1,1,1]] (St.mk [(9,.v (qA (IntKind.wrap .i64 ((↑k:Int)+(1:Int))))),(7,.v (qA (gI dg (Int.toNat (gI (gL c.6 i).1 k))))),(8,.v (qA b)),(6,.v (qA (↑i:Int))),(4,.v (qA m)),(3,.o 0),(1,.p 1 0)] [.rowc 3 1 dg.length (.fn (cI dg)),.cells [.v (qA c.1),.v (qA c.2),.v (qA c.3),.x 2 [],.x 3 [],.x 4 [],.x 5 []] 27,.ext false (.s false 7 c.4.length (cN c.4)),.ext false (.s false 1 c.5.length (cI c.5)),.ext false (.s false 2 c.6.length (cL c.6)),.ext false (.s false 2 c.7.length (cK c.7))]) else(∀ M:Mem,(0:Int)≤(↑i:Int)∧(↑i:Int)<(↑c.6.length:Int))∧(∀ M:Mem,i<List.length c.6)∧(∀ M:Mem,i<List.length c.6)∧(∀ M:Mem,i<List.length c.6)∧(∀ M:Mem,(0:Int)≤(↑k:Int)∧(↑k:Int)<(↑(List.length (gL c.6 i).2):Int))∧(∀ M:Mem,i<List.length c.6)∧(∀ M:Mem,k<List.length (gL c.6 i).2)∧(∀ M:Mem,(0:Int)≤gI (gL c.6 i).2 k∧gI (gL c.6 i).2 k<(↑dg.length:Int))∧(∀ M:Mem,Int.toNat (gI (gL c.6 i).2 k)<List.length dg)∧bif decide (b<gI dg (Int.toNat (gI (gL c.6 i).2 k))) then(∀ M:Mem,(0:Int)≤(↑i:Int)∧(↑i:Int)<(↑c.6.length:Int))∧(∀ M:Mem,i<List.length c.6)∧(∀ M:Mem,i<List.length c.6)∧(∀ M:Mem,i<List.length c.6)∧(∀ M:Mem,(0:Int)≤(↑k:Int)∧(↑k:Int)<(↑(List.length (gL c.6 i).2):Int))∧(∀ M:Mem,i<List.length c.6)∧(∀ M:Mem,k<List.length (gL c.6 i).2)∧(∀ M:Mem,(0:Int)≤gI (gL c.6 i).2 k∧gI (gL c.6 i).2 k<(↑dg.length:Int))∧(∀ M:Mem,Int.toNat (gI (gL c.6 i).2 k)<List.length dg)∧K [.rnd [0,0,1,0,1,1,0,0,1,0,0,1,0,1,1,1,1,1] M,.blk 4,.at [1,1,1,0,0,1,0,0,1,0,1,1,1,1,1],.blk 3,.at [1,1,0,0,1,0,1,1,1,1,1],.rnd [0,0,1,0,1,1,1,1,1] M2,.blk 2,.at [1,1,1,1,1,1]] (St.mk [(9,.v (qA (IntKind.wrap .i64 ((↑k:Int)+(1:Int))))),(7,.v (qA a)),(8,.v (qA (gI dg (Int.toNat (gI (gL c.6 i).2 k))))),(6,.v (qA (↑i:Int))),(4,.v (qA m)),(3,.o 0),(1,.p 1 0)] [.rowc 3 1 dg.length (.fn (cI dg)),.cells [.v (qA c.1),.v (qA c.2),.v (qA c.3),.x 2 [],.x 3 [],.x 4 [],.x 5 []] 27,.ext false (.s false 7 c.4.length (cN c.4)),.ext false (.s false 1 c.5.length (cI c.5)),.ext false (.s false 2 c.6.length (cL c.6)),.ext false (.s false 2 c.7.length (cK c.7))]) else K [.rnd [0,0,1,0,1,1,0,0,1,0,0,1,0,1,1,1,1,1] M,.blk 4,.at [1,1,1,0,0,1,0,0,1,0,1,1,1,1,1],.blk 3,.at [1,1,0,0,1,0,1,1,1,1,1],.rnd [0,0,1,0,1,1,1,1,1] M2,.blk 2,.at [1,1,1,1,1,1]] (St.mk [(9,.v (qA (IntKind.wrap .i64 ((↑k:Int)+(1:Int))))),(7,.v (qA a)),(8,.v (qA b)),(6,.v (qA (↑i:Int))),(4,.v (qA m)),(3,.o 0),(1,.p 1 0)] [.rowc 3 1 dg.length (.fn (cI dg)),.cells [.v (qA c.1),.v (qA c.2),.v (qA c.3),.x 2 [],.x 3 [],.x 4 [],.x 5 []] 27,.ext false (.s false 7 c.4.length (cN c.4)),.ext false (.s false 1 c.5.length (cI c.5)),.ext false (.s false 2 c.6.length (cL c.6)),.ext false (.s false 2 c.7.length (cK c.7))]) else bif decide (m<IntKind.wrap .i64 (IntKind.wrap .i64 ((2:Int)+a)+b)) then K [.rnd [0,0,1,0,1,1,1,1,1] M2,.blk 2,.at [1,1,1,1,1,1]] (St.mk [(6,.v (qA (IntKind.wrap .i64 ((↑i:Int)+(1:Int))))),(4,.v (qA (IntKind.wrap .i64 (IntKind.wrap .i64 ((2:Int)+a)+b)))),(3,.o 0),(1,.p 1 0)] [.rowc 3 1 dg.length (.fn (cI dg)),.cells [.v (qA c.1),.v (qA c.2),.v (qA c.3),.x 2 [],.x 3 [],.x 4 [],.x 5 []] 27,.ext false (.s false 7 c.4.length (cN c.4)),.ext false (.s false 1 c.5.length (cI c.5)),.ext false (.s false 2 c.6.length (cL c.6)),.ext false (.s false 2 c.7.length (cK c.7))]) else K [.rnd [0,0,1,0,1,1,1,1,1] M2,.blk 2,.at [1,1,1,1,1,1]] (St.mk [(6,.v (qA (IntKind.wrap .i64 ((↑i:Int)+(1:Int))))),(4,.v (qA m)),(3,.o 0),(1,.p 1 0)] [.rowc 3 1 dg.length (.fn (cI dg)),.cells [.v (qA c.1),.v (qA c.2),.v (qA c.3),.x 2 [],.x 3 [],.x 4 [],.x 5 []] 27,.ext false (.s false 7 c.4.length (cN c.4)),.ext false (.s false 1 c.5.length (cI c.5)),.ext false (.s false 2 c.6.length (cL c.6)),.ext false (.s false 2 c.7.length (cK c.7))])):=by kernel_rfl
theorem zDa(c:Cir)(hc:c.ok)(dg:List Int)(ho:qAw c dg)(m:Int)(i M2:Nat)(hi:i<c.looks.length)(hlen:(gL c.looks i).2.length=(gL c.looks i).1.length)(Q:SV→List HO→Prop)(next:FOk Tryz.prog Tryz.f78 Q (.rnd [0,0,1,0,1,1,1,1,1] M2::[.blk 2,.at [1,1,1,1,1,1]]) ⟨[(6,.v (.int .i64 ((i+1:Nat):Int))),(4,.v (.int .i64 (mxI m (2+gtN dg (gL c.looks i).1+gtN dg (gL c.looks i).2)))),(3,.o 0),(1,.p 1 0)],[.rowc 3 1 dg.length (.fn (cI dg)),.cells [.v (.int .i64 c.fx),.v (.int .i64 c.ad),.v (.int .i64 c.ins),.x 2 [],.x 3 [],.x 4 [],.x 5 []] 27,.ext false (.s false 7 c.nodes.length (cN c.nodes)),.ext false (.s false 1 c.gates.length (cI c.gates)),.ext false (.s false 2 c.looks.length (cL c.looks)),.ext false (.s false 2 c.eqs.length (cK c.eqs))]⟩):∀(d k:Nat) (a b:Int),k+d=(gL c.looks i).1.length→a=gtN dg ((gL c.looks i).1.take k)→b=gtN dg ((gL c.looks i).2.take k) →
  FOk Tryz.prog Tryz.f78 Q (.rnd [0,0,1,0,1,1,0,0,1,0,0,1,0,1,1,1,1,1] (d+1)::[.blk 4,.at [1,1,1,0,0,1,0,0,1,0,1,1,1,1,1],.blk 3,.at [1,1,0,0,1,0,1,1,1,1,1],.rnd [0,0,1,0,1,1,1,1,1] M2,.blk 2,.at [1,1,1,1,1,1]]) ⟨[(9,.v (.int .i64 (k:Int))),(7,.v (.int .i64 a)),(8,.v (.int .i64 b)),(6,.v (.int .i64 (i:Int))),(4,.v (.int .i64 m)),(3,.o 0),(1,.p 1 0)],[.rowc 3 1 dg.length (.fn (cI dg)),.cells [.v (.int .i64 c.fx),.v (.int .i64 c.ad),.v (.int .i64 c.ins),.x 2 [],.x 3 [],.x 4 [],.x 5 []] 27,.ext false (.s false 7 c.nodes.length (cN c.nodes)),.ext false (.s false 1 c.gates.length (cI c.gates)),.ext false (.s false 2 c.looks.length (cL c.looks)),.ext false (.s false 2 c.eqs.length (cK c.eqs))]⟩
 | 0,k,a,b,hd,ha,hb=>by
  have h1:=hc.l.2
  have t1:=qGh ho.d (gL c.looks i).1
  have t2:=qGh ho.d (gL c.looks i).2
  refine FOk.rnd (qC hm 60 ((zRr c dg a b m i k M2 0 _ _).mpr ⟨?_⟩))
  rw[show k=(gL c.looks i).1.length by omega,List.take_length] at ha
  rw[show k=(gL c.looks i).2.length by omega,List.take_length] at hb
  refine aI (aI (aI (And.intro (fun _=>by omega) ?_)))
  rw[qD,if_neg (by omega),ha,hb,zE (2+gtN dg (gL c.looks i).1) (by omega),zE (2+gtN dg (gL c.looks i).1+gtN dg (gL c.looks i).2) (by omega),qK i (by omega),qD]
  refine qG (fun h=>?_) (fun h=>?_)
  ·rw[qZi h] at next; exact next
  ·rw[qZq h] at next; exact next
 | d+1,k,a,b,hd,ha,hb=>by
  have h1:=hc.l.2
  obtain⟨⟨_,g1⟩,⟨_,g2⟩⟩:=hc.l.1 _ (qCt hi)
  obtain⟨o1,o2⟩:=ho.l _ (qCt hi)
  have hk:k<(gL c.looks i).1.length:=by omega
  have hk2:k<(gL c.looks i).2.length:=by omega
  obtain⟨p1,p2⟩:=o1 _ (qAt hk)
  obtain⟨p3,p4⟩:=o2 _ (qAt hk2)
  have rec':=zDa c hc dg ho m i M2 hi hlen Q next d (k+1)
  refine FOk.rnd (qC hm 60 ((zRr c dg a b m i k M2 (d+1) _ _).mpr ⟨?_⟩))
  rw[qK k (by omega)]
  simp only[qD,forall_const]
  refine And.intro (by omega) (And.intro (by omega) (And.intro (by omega) (And.intro (by omega) ?_)))
  rw[if_pos (by omega)]
  repeat' (first | refine And.intro (by omega) ?_ | refine qG (fun h=>?_) (fun h=>?_))
  all_goals first
   | exact rec' _ _ (by omega) (qHd hk ha (by assumption)) (qHd hk2 hb (by assumption))
   | exact rec' _ _ (by omega) (qHd hk ha (by assumption)) (qHq hk2 hb (by assumption))
   | exact rec' _ _ (by omega) (qHq hk ha (by assumption)) (qHd hk2 hb (by assumption))
   | exact rec' _ _ (by omega) (qHq hk ha (by assumption)) (qHq hk2 hb (by assumption))
theorem qZo(c:Cir)(hc:c.ok)(dg:List Int)(ho:qAw c dg)(hlen:∀ x∈c.looks,x.2.length=x.1.length)(Q:SV→List HO→Prop)(hq:Q (.v (.int .i64 (qDl c dg))) []):∀(d k:Nat) (m:Int),k+d=c.looks.length→m=(c.looks.take k).foldl (fun d l=>mxI d (2+gtN dg l.1+gtN dg l.2)) (mxI (qAn c) (gtN dg c.gates+1)) →
  FOk Tryz.prog Tryz.f78 Q (.rnd [0,0,1,0,1,1,1,1,1] (d+1)::[.blk 2,.at [1,1,1,1,1,1]]) ⟨[(6,.v (.int .i64 (k:Int))),(4,.v (.int .i64 m)),(3,.o 0),(1,.p 1 0)],[.rowc 3 1 dg.length (.fn (cI dg)),.cells [.v (.int .i64 c.fx),.v (.int .i64 c.ad),.v (.int .i64 c.ins),.x 2 [],.x 3 [],.x 4 [],.x 5 []] 27,.ext false (.s false 7 c.nodes.length (cN c.nodes)),.ext false (.s false 1 c.gates.length (cI c.gates)),.ext false (.s false 2 c.looks.length (cL c.looks)),.ext false (.s false 2 c.eqs.length (cK c.eqs))]⟩
 | 0,k,m,hd,he=>by
  refine FOk.rnd (qC hm 60 ((zRj c dg m k 0 _ _).mpr ⟨?_⟩))
  rw[qD,if_neg (by omega)]
  rw[show k=c.looks.length by omega,List.take_length] at he
  rw[he]
  exact hq
 | d+1,k,m,hd,he=>by
  have hk:k<c.looks.length:=by omega
  refine FOk.rnd (qC hm 60 ((zRj c dg m k (d+1) _ _).mpr ⟨?_⟩))
  rw[qD,if_pos (by omega)]
  exact FOk.loop ((gL c.looks k).1.length+1) (by kernel_rfl) (zDa c hc dg ho m k (d+1) hk (hlen _ (qCt hk)) Q (qZo c hc dg ho hlen Q hq d (k+1) _ (by omega) (by rw[qIw _ _ hk,← he])) (gL c.looks k).1.length 0 0 0 (by omega) rfl rfl)
theorem qSq(c:Cir)(hc:c.ok)(dg:List Int)(ho:qAw c dg)(hlen:∀ x∈c.looks,x.2.length=x.1.length)(Q:SV→List HO→Prop)(hq:Q (.v (.int .i64 (qDl c dg))) []):∀(d k:Nat) (m:Int),k+d=c.gates.length→m=mxI (qAn c) (gtN dg (c.gates.take k)+1) →
  FOk Tryz.prog Tryz.f78 Q (.rnd [0,0,1,0,1,1,1,1] (d+1)::[.blk 0,.at [1,1,1,1,1]]) ⟨[(5,.v (.int .i64 (k:Int))),(4,.v (.int .i64 m)),(3,.o 0),(1,.p 1 0)],[.rowc 3 1 dg.length (.fn (cI dg)),.cells [.v (.int .i64 c.fx),.v (.int .i64 c.ad),.v (.int .i64 c.ins),.x 2 [],.x 3 [],.x 4 [],.x 5 []] 27,.ext false (.s false 7 c.nodes.length (cN c.nodes)),.ext false (.s false 1 c.gates.length (cI c.gates)),.ext false (.s false 2 c.looks.length (cL c.looks)),.ext false (.s false 2 c.eqs.length (cK c.eqs))]⟩
 | 0,k,m,hd,he=>by
  refine FOk.rnd (qC hm 60 ((zTj c dg m k 0 _ _).mpr ⟨?_⟩))
  rw[qD,if_neg (by omega)]
  rw[show k=c.gates.length by omega,List.take_length] at he
  exact FOk.loop (c.looks.length+1) (by kernel_rfl) (qZo c hc dg ho hlen Q hq c.looks.length 0 m (by omega) he)
 | d+1,k,m,hd,he=>by
  have hk:k<c.gates.length:=by omega
  have h1:=hc.g.2
  obtain⟨p1,p2⟩:=ho.g _ (qAt hk)
  have t:=zFc ho.d (gI c.gates k).toNat
  have rec':=qSq c hc dg ho hlen Q hq d (k+1) (mxI m (gI dg (gI c.gates k).toNat+1)) (by omega) (by rw[zBw hk,← he])
  refine FOk.rnd (qC hm 60 ((zTj c dg m k (d+1) _ _).mpr ⟨?_⟩))
  rw[qD,if_pos (by omega),qK k (by omega),zE (gI dg (gI c.gates k).toNat+1) (by omega)]
  refine aI (aI (aI (aI (?_))))
  rw[qD]
  refine qG (fun h=>?_) (fun h=>?_)
  ·rw[qZi h] at rec'
   exact aI (aI (aI (aI (rec'))))
  ·rw[qZq h] at rec'
   exact rec'
theorem zWa:Tryz.f78.body.isSome=true:=by kernel_rfl
theorem zYb(c:Cir):Nat.ble [(.agg [.v (.int .i64 c.fx),.v (.int .i64 c.ad),.v (.int .i64 c.ins),.x 0 [],.x 1 [],.x 2 [],.x 3 []]:SV)].length Tryz.f78.ntmps=true:=by kernel_rfl
theorem zPk(c:Cir)(hc:c.ok)(ho:qAw c (qM c.nodes))(hlen:∀ x∈c.looks,x.2.length=x.1.length)(Q:SV→List HO→Prop)(hq:Q (.v (.int .i64 (qDl c (qM c.nodes)))) []):qI Tryz.prog 78 [.agg [.v (.int .i64 c.fx),.v (.int .i64 c.ad),.v (.int .i64 c.ins),.x 0 [],.x 1 [],.x 2 [],.x 3 []]] [.ext false (.s false 7 c.nodes.length (cN c.nodes)),.ext false (.s false 1 c.gates.length (cI c.gates)),.ext false (.s false 2 c.looks.length (cL c.looks)),.ext false (.s false 2 c.eqs.length (cK c.eqs))] Q:=by
 refine qL Tryz.func78 zWa ?_ ?_
 ·exact zYb c
 have h1:=hc.n.2
 refine qC hm 60 ((zXh c _ _).mpr ⟨?_⟩)
 refine⟨c.nodes,rfl,IsC.refl _ _ _,by omega,?_⟩
 have start:∀ m:Int,m=qAn c→FOk Tryz.prog Tryz.f78 Q (.rnd [0,0,1,0,1,1,1,1] (c.gates.length+1)::[.blk 0,.at [1,1,1,1,1]]) ⟨[(5,.v (.int .i64 ((0:Nat):Int))),(4,.v (.int .i64 m)),(3,.o 0),(1,.p 1 0)],[.rowc 3 1 (qM c.nodes).length (.fn (cI (qM c.nodes))),.cells [.v (.int .i64 c.fx),.v (.int .i64 c.ad),.v (.int .i64 c.ins),.x 2 [],.x 3 [],.x 4 [],.x 5 []] 27,.ext false (.s false 7 c.nodes.length (cN c.nodes)),.ext false (.s false 1 c.gates.length (cI c.gates)),.ext false (.s false 2 c.looks.length (cL c.looks)),.ext false (.s false 2 c.eqs.length (cK c.eqs))]⟩:=fun m hm'=>by
  refine qSq c hc _ ho hlen Q hq c.gates.length 0 m (by omega) ?_
  rw[hm',mxI,if_neg]
  ·have:qAn c=3∨qAn c=4:=by rw[qAn]; split <;> simp
   simp only[List.take_zero,gtN,List.foldl_nil]
   omega
 simp only[qD]
 refine qG (fun h=>?_) (fun h=>qG (fun h2=>?_) (fun h2=>?_))
 ·exact FOk.loop (c.gates.length+1) (by kernel_rfl) (start 4 (by rw[qAn,if_pos (by omega)]))
 ·exact FOk.loop (c.gates.length+1) (by kernel_rfl) (start 4 (by rw[qAn,if_pos (by omega)]))
 ·exact FOk.loop (c.gates.length+1) (by kernel_rfl) (start 3 (by rw[qAn,if_neg (by omega)]))
noncomputable def zJr:List SV→List HO→Option ((SV→List HO→Prop)→Prop)
 | [.agg [.v (.int .i64 fx),.v (.int .i64 ad),.v (.int .i64 ins),.x 0 [],.x 1 [],.x 2 [],.x 3 []]],[.ext false (.s false 7 n0 c0),.ext false (.s false 1 n1 c1),.ext false (.s false 2 n2 c2),.ext false (.s false 2 n3 c3)] =>
  some fun Q=>lC fx ad ins n0 n1 n2 n3 c0 c1 c2 c3 fun c=>(qAw c (qM c.nodes)∧∀ x∈c.looks,x.2.length=x.1.length)∧Q (.v (.int .i64 (qDl c (qM c.nodes)))) []
 | _,_=>none
theorem zHv(args:List SV)(h:List HO)(tr:(SV→List HO→Prop)→Prop)(Q:SV→List HO→Prop)(hc:zJr args h=some tr)(ht:tr Q):qI Tryz.prog 78 args h Q:=by
 unfold zJr at hc
 split at hc
 ·rename_i fx ad ins n0 c0 n1 c1 n2 c2 n3 c3
  simp only[sI] at hc
  subst hc
  obtain⟨c,rfl,rfl,rfl,⟨rfl,e0⟩,⟨rfl,e1⟩,⟨rfl,e2⟩,⟨rfl,e3⟩,hk,ho,hq⟩:=ht.h
  exact qI.ac (zPk c hk ho.1 ho.2 Q hq) ⟨⟨rfl,rfl,rfl,rfl,e0⟩,⟨rfl,rfl,rfl,rfl,e1⟩,⟨rfl,rfl,rfl,rfl,e2⟩,⟨rfl,rfl,rfl,rfl,e3⟩,trivial⟩
 ·cases hc
noncomputable def K55:Con Tryz.prog:=K54.add 78 zJr zHv
end Go.Proofs.YtlmjdcbhpffanaaGreat
