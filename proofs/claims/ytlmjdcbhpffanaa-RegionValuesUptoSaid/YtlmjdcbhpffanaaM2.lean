/- The texts Z14 .. Z50 of this proof, one behind the other. -/
import Derived.Test.YtlmjdcbhpffanaaM1
import Derived.Lib.Mul64
/- A node's cone. -/
namespace Go.Pl
open Go.Sx
theorem qKl{n sz:Nat}{c c':Nat→Nat→qB}(h:IsC n sz c c')(k j:Nat)(l:List qB):IsC n sz (qNp c k j l) (qNp c' k j l):=by
 intro a ha b hb
 rw[qKf,qKf]
 split
 ·rfl
 ·exact h a ha b hb
theorem zAk{w:List Bool}{n a b:Nat}(h:w.length=n)(ha:a<n)(hb:b<n):IsC n 1 (Ct.upd (Ct.upd (.fn (cB w)) a 0 [.v (.bool true)]) b 0 [.v (.bool true)]).at (Ct.fn (cB ((w.set a true).set b true))).at :=
 IsC.trans (qKl (qMi true h ha) b 0 [.v (.bool true)]) (qMi true (by rw[List.length_set]; exact h) hb)
theorem zEw{l:List Nd}{k:Nat}{w:List Bool}(hk:k<l.length)(h:gB w k=true):qBa l k w=(qCd (gN l k)).foldl (fun w j=>w.set j.toNat true) w:=by
 have h':w.getD k false=true:=h
 rw[qBa,if_pos h',gN,List.getD_eq_getElem?_getD,List.getElem?_eq_getElem hk]
 rfl
theorem zJi{l:List Nd}{k:Nat}{w:List Bool}(out:List Int)(h:gB w k=true):qHo l (k+1) w out=qHo l k (qBa l k w) (out++[(k:Int)]):=by
 rw[qHo,if_pos (show w.getD k false=true from h)]
theorem zPi{l:List Nd}{k:Nat}{w:List Bool}(out:List Int)(h:gB w k=false):qHo l (k+1) w out=qHo l k w out:=by
 rw[qHo,if_neg (by rw[show w.getD k false=false from h]; exact Bool.false_ne_true)]
end Go.Pl
namespace Go.Proofs.Ytlmjdcbhpffanaa
open Go.Sx Go.Pl
set_option linter.unusedVariables false
set_option maxRecDepth 100000
theorem coc(l:List Nd)(w:List Bool)(out:List Int)(n k m M:Nat)(K:List It→St→Prop)(R:SV→List HO→Prop):W (xwp Try.prog X K13 [(135,[]),(139,[]),(142,[]),(150,[])] 60 (qO Try.f75 [([0,1,0,1,1,1,1,0,0,1,0,0,1,0,1,1,1,1,1,1],3)] [⟨[0,1,0,1,1,1,1,1,1],[9,7,8,5],[(8,3,1)]⟩]) [.as 55 (.v (.iface 183 (.agg #[.int .u64 (qC (gN l k).v 0:Nat),.int .u64 (qC (gN l k).v 1:Nat),.int .u64 (qC (gN l k).v 2:Nat),.int .u64 (qC (gN l k).v 3:Nat)])))] (.at [0,0,1,0,1,1,1,1,1,1]::.rnd [0,0,1,0,1,1,1,1,1,1] M::[.blk 0,.at [1,1,1,1,1,1,1]]) ⟨[(9,.v (.int .i64 (k:Int))),(7,.o 0),(8,.o 1),(5,.o 2)],[.rowc 4 1 n (.fn (cB w)),.rowc 3 1 m (.fn (cI out)),.rowc 173 1 n (.fn (cS l))]⟩ K R)=W ((∀ M:Mem,(0:Int)≤(↑k:Int)∧(↑k:Int)<(↑n:Int))∧(∀ M:Mem,k<n)∧bif !gB w k then K [.rnd [0,0,1,0,1,1,1,1,1,1] M,.blk 0,.at [1,1,1,1,1,1,1]] (St.mk [(9,.v (qA (IntKind.wrap .i64 ((↑k:Int)-(1:Int))))),(7,.o 0),(8,.o 1),(5,.o 2)] [.rowc 4 1 n (.fn (cB w)),.rowc 3 1 m (.fn (cI out)),.rowc 173 1 n (.fn (cS l))]) else(∀ M:Mem,(m+1)*8≤140737488355328∧m+1≤140737488355328)∧(∀ M:Mem,(0:Int)≤(↑k:Int)∧(↑k:Int)<(↑n:Int))∧(∀ M:Mem,k<n)∧(∀ M:Mem,stV (gN l k)=Value.iface 183 (Value.agg (Array.mk [qD (↑(qC (gN l k).4 0):Int),qD (↑(qC (gN l k).4 1):Int),qD (↑(qC (gN l k).4 2):Int),qD (↑(qC (gN l k).4 3):Int)])))∧K [.rnd [0,0,1,0,1,1,1,1,1,1] M,.blk 0,.at [1,1,1,1,1,1,1]] (St.mk [(9,.v (qA (IntKind.wrap .i64 ((↑k:Int)-(1:Int))))),(7,.o 0),(8,.o 1),(5,.o 2)] [.rowc 4 1 n (.fn (cB w)),.rowc 3 1 (m+1) (.app m (.fn (cI out)) (.lit 1 [.v (qA (↑k:Int))])),.rowc 173 1 n (.fn (cS l))])):=by kernel_rfl
theorem con(l:List Nd)(w:List Bool)(out:List Int)(n k m M:Nat)(K:List It→St→Prop)(R:SV→List HO→Prop):W (xwp Try.prog X K13 [(135,[]),(139,[]),(142,[]),(150,[])] 60 (qO Try.f75 [([0,1,0,1,1,1,1,0,0,1,0,0,1,0,1,1,1,1,1,1],3)] [⟨[0,1,0,1,1,1,1,1,1],[9,7,8,5],[(8,3,1)]⟩]) [.as 55 (.v (.iface 204 (.agg #[.int .i64 (gN l k).a])))] (.at [0,0,1,0,1,1,1,1,1,1]::.rnd [0,0,1,0,1,1,1,1,1,1] M::[.blk 0,.at [1,1,1,1,1,1,1]]) ⟨[(9,.v (.int .i64 (k:Int))),(7,.o 0),(8,.o 1),(5,.o 2)],[.rowc 4 1 n (.fn (cB w)),.rowc 3 1 m (.fn (cI out)),.rowc 173 1 n (.fn (cS l))]⟩ K R)=W ((∀ M:Mem,(0:Int)≤(↑k:Int)∧(↑k:Int)<(↑n:Int))∧(∀ M:Mem,k<n)∧bif !gB w k then K [.rnd [0,0,1,0,1,1,1,1,1,1] M,.blk 0,.at [1,1,1,1,1,1,1]] (St.mk [(9,.v (qA (IntKind.wrap .i64 ((↑k:Int)-(1:Int))))),(7,.o 0),(8,.o 1),(5,.o 2)] [.rowc 4 1 n (.fn (cB w)),.rowc 3 1 m (.fn (cI out)),.rowc 173 1 n (.fn (cS l))]) else(∀ M:Mem,(m+1)*8≤140737488355328∧m+1≤140737488355328)∧(∀ M:Mem,(0:Int)≤(↑k:Int)∧(↑k:Int)<(↑n:Int))∧(∀ M:Mem,k<n)∧(∀ M:Mem,stV (gN l k)=Value.iface 204 (Value.agg (Array.mk [qA (gN l k).2])))∧(∀ M:Mem,(0:Int)≤(0:Int)∧(0:Int)<(1:Int))∧(∀ M:Mem,0<1)∧(∀ M:Mem,(0:Int)≤(gN l k).2∧(gN l k).2<(↑n:Int))∧(∀ M:Mem,Int.toNat (gN l k).2<n)∧K [.rnd [0,0,1,0,1,1,1,1,1,1] M,.blk 0,.at [1,1,1,1,1,1,1]] (St.mk [(9,.v (qA (IntKind.wrap .i64 ((↑k:Int)-(1:Int))))),(7,.o 0),(8,.o 1),(5,.o 2)] [.rowc 4 1 n (.upd (.fn (cB w)) (Int.toNat (gN l k).2) 0 [.v (.bool true)]),.rowc 3 1 (m+1) (.app m (.fn (cI out)) (.lit 1 [.v (qA (↑k:Int))])),.rowc 173 1 n (.fn (cS l))])):=by kernel_rfl
theorem coa(l:List Nd)(w:List Bool)(out:List Int)(n k m M:Nat)(K:List It→St→Prop)(R:SV→List HO→Prop):W (xwp Try.prog X K13 [(135,[]),(139,[]),(142,[]),(150,[])] 60 (qO Try.f75 [([0,1,0,1,1,1,1,0,0,1,0,0,1,0,1,1,1,1,1,1],3)] [⟨[0,1,0,1,1,1,1,1,1],[9,7,8,5],[(8,3,1)]⟩]) [.as 55 (.v (.iface 206 (.agg #[.int .i64 (gN l k).a,.int .i64 (gN l k).b])))] (.at [0,0,1,0,1,1,1,1,1,1]::.rnd [0,0,1,0,1,1,1,1,1,1] M::[.blk 0,.at [1,1,1,1,1,1,1]]) ⟨[(9,.v (.int .i64 (k:Int))),(7,.o 0),(8,.o 1),(5,.o 2)],[.rowc 4 1 n (.fn (cB w)),.rowc 3 1 m (.fn (cI out)),.rowc 173 1 n (.fn (cS l))]⟩ K R)=W ((∀ M:Mem,(0:Int)≤(↑k:Int)∧(↑k:Int)<(↑n:Int))∧(∀ M:Mem,k<n)∧bif !gB w k then K [.rnd [0,0,1,0,1,1,1,1,1,1] M,.blk 0,.at [1,1,1,1,1,1,1]] (St.mk [(9,.v (qA (IntKind.wrap .i64 ((↑k:Int)-(1:Int))))),(7,.o 0),(8,.o 1),(5,.o 2)] [.rowc 4 1 n (.fn (cB w)),.rowc 3 1 m (.fn (cI out)),.rowc 173 1 n (.fn (cS l))]) else(∀ M:Mem,(m+1)*8≤140737488355328∧m+1≤140737488355328)∧(∀ M:Mem,(0:Int)≤(↑k:Int)∧(↑k:Int)<(↑n:Int))∧(∀ M:Mem,k<n)∧(∀ M:Mem,stV (gN l k)=Value.iface 206 (Value.agg (Array.mk [qA (gN l k).2,qA (gN l k).3])))∧(∀ M:Mem,(0:Int)≤(0:Int)∧(0:Int)<(2:Int))∧(∀ M:Mem,0<2)∧(∀ M:Mem,(0:Int)≤(gN l k).2∧(gN l k).2<(↑n:Int))∧(∀ M:Mem,Int.toNat (gN l k).2<n)∧(∀ M:Mem,(0:Int)≤(1:Int)∧(1:Int)<(2:Int))∧(∀ M:Mem,1<2)∧(∀ M:Mem,(0:Int)≤(gN l k).3∧(gN l k).3<(↑n:Int))∧(∀ M:Mem,Int.toNat (gN l k).3<n)∧K [.rnd [0,0,1,0,1,1,1,1,1,1] M,.blk 0,.at [1,1,1,1,1,1,1]] (St.mk [(9,.v (qA (IntKind.wrap .i64 ((↑k:Int)-(1:Int))))),(7,.o 0),(8,.o 1),(5,.o 2)] [.rowc 4 1 n (.upd (.upd (.fn (cB w)) (Int.toNat (gN l k).2) 0 [.v (.bool true)]) (Int.toNat (gN l k).3) 0 [.v (.bool true)]),.rowc 3 1 (m+1) (.app m (.fn (cI out)) (.lit 1 [.v (qA (↑k:Int))])),.rowc 173 1 n (.fn (cS l))])):=by kernel_rfl
theorem com(l:List Nd)(w:List Bool)(out:List Int)(n k m M:Nat)(K:List It→St→Prop)(R:SV→List HO→Prop):W (xwp Try.prog X K13 [(135,[]),(139,[]),(142,[]),(150,[])] 60 (qO Try.f75 [([0,1,0,1,1,1,1,0,0,1,0,0,1,0,1,1,1,1,1,1],3)] [⟨[0,1,0,1,1,1,1,1,1],[9,7,8,5],[(8,3,1)]⟩]) [.as 55 (.v (.iface 207 (.agg #[.int .i64 (gN l k).a,.int .i64 (gN l k).b])))] (.at [0,0,1,0,1,1,1,1,1,1]::.rnd [0,0,1,0,1,1,1,1,1,1] M::[.blk 0,.at [1,1,1,1,1,1,1]]) ⟨[(9,.v (.int .i64 (k:Int))),(7,.o 0),(8,.o 1),(5,.o 2)],[.rowc 4 1 n (.fn (cB w)),.rowc 3 1 m (.fn (cI out)),.rowc 173 1 n (.fn (cS l))]⟩ K R)=W ((∀ M:Mem,(0:Int)≤(↑k:Int)∧(↑k:Int)<(↑n:Int))∧(∀ M:Mem,k<n)∧bif !gB w k then K [.rnd [0,0,1,0,1,1,1,1,1,1] M,.blk 0,.at [1,1,1,1,1,1,1]] (St.mk [(9,.v (qA (IntKind.wrap .i64 ((↑k:Int)-(1:Int))))),(7,.o 0),(8,.o 1),(5,.o 2)] [.rowc 4 1 n (.fn (cB w)),.rowc 3 1 m (.fn (cI out)),.rowc 173 1 n (.fn (cS l))]) else(∀ M:Mem,(m+1)*8≤140737488355328∧m+1≤140737488355328)∧(∀ M:Mem,(0:Int)≤(↑k:Int)∧(↑k:Int)<(↑n:Int))∧(∀ M:Mem,k<n)∧(∀ M:Mem,stV (gN l k)=Value.iface 207 (Value.agg (Array.mk [qA (gN l k).2,qA (gN l k).3])))∧(∀ M:Mem,(0:Int)≤(0:Int)∧(0:Int)<(2:Int))∧(∀ M:Mem,0<2)∧(∀ M:Mem,(0:Int)≤(gN l k).2∧(gN l k).2<(↑n:Int))∧(∀ M:Mem,Int.toNat (gN l k).2<n)∧(∀ M:Mem,(0:Int)≤(1:Int)∧(1:Int)<(2:Int))∧(∀ M:Mem,1<2)∧(∀ M:Mem,(0:Int)≤(gN l k).3∧(gN l k).3<(↑n:Int))∧(∀ M:Mem,Int.toNat (gN l k).3<n)∧K [.rnd [0,0,1,0,1,1,1,1,1,1] M,.blk 0,.at [1,1,1,1,1,1,1]] (St.mk [(9,.v (qA (IntKind.wrap .i64 ((↑k:Int)-(1:Int))))),(7,.o 0),(8,.o 1),(5,.o 2)] [.rowc 4 1 n (.upd (.upd (.fn (cB w)) (Int.toNat (gN l k).2) 0 [.v (.bool true)]) (Int.toNat (gN l k).3) 0 [.v (.bool true)]),.rowc 3 1 (m+1) (.app m (.fn (cI out)) (.lit 1 [.v (qA (↑k:Int))])),.rowc 173 1 n (.fn (cS l))])):=by kernel_rfl
theorem cos(l:List Nd)(w:List Bool)(out:List Int)(n k m M:Nat)(K:List It→St→Prop)(R:SV→List HO→Prop):W (xwp Try.prog X K13 [(135,[]),(139,[]),(142,[]),(150,[])] 60 (qO Try.f75 [([0,1,0,1,1,1,1,0,0,1,0,0,1,0,1,1,1,1,1,1],3)] [⟨[0,1,0,1,1,1,1,1,1],[9,7,8,5],[(8,3,1)]⟩]) [.as 55 (.v (.iface 209 (.agg #[.int .i64 (gN l k).a,.int .u64 (qC (gN l k).v 0:Nat),.int .u64 (qC (gN l k).v 1:Nat),.int .u64 (qC (gN l k).v 2:Nat),.int .u64 (qC (gN l k).v 3:Nat)])))] (.at [0,0,1,0,1,1,1,1,1,1]::.rnd [0,0,1,0,1,1,1,1,1,1] M::[.blk 0,.at [1,1,1,1,1,1,1]]) ⟨[(9,.v (.int .i64 (k:Int))),(7,.o 0),(8,.o 1),(5,.o 2)],[.rowc 4 1 n (.fn (cB w)),.rowc 3 1 m (.fn (cI out)),.rowc 173 1 n (.fn (cS l))]⟩ K R)=W ((∀ M:Mem,(0:Int)≤(↑k:Int)∧(↑k:Int)<(↑n:Int))∧(∀ M:Mem,k<n)∧bif !gB w k then K [.rnd [0,0,1,0,1,1,1,1,1,1] M,.blk 0,.at [1,1,1,1,1,1,1]] (St.mk [(9,.v (qA (IntKind.wrap .i64 ((↑k:Int)-(1:Int))))),(7,.o 0),(8,.o 1),(5,.o 2)] [.rowc 4 1 n (.fn (cB w)),.rowc 3 1 m (.fn (cI out)),.rowc 173 1 n (.fn (cS l))]) else(∀ M:Mem,(m+1)*8≤140737488355328∧m+1≤140737488355328)∧(∀ M:Mem,(0:Int)≤(↑k:Int)∧(↑k:Int)<(↑n:Int))∧(∀ M:Mem,k<n)∧(∀ M:Mem,stV (gN l k)=Value.iface 209 (Value.agg (Array.mk [qA (gN l k).2,qD (↑(qC (gN l k).4 0):Int),qD (↑(qC (gN l k).4 1):Int),qD (↑(qC (gN l k).4 2):Int),qD (↑(qC (gN l k).4 3):Int)])))∧(∀ M:Mem,(0:Int)≤(0:Int)∧(0:Int)<(1:Int))∧(∀ M:Mem,0<1)∧(∀ M:Mem,(0:Int)≤(gN l k).2∧(gN l k).2<(↑n:Int))∧(∀ M:Mem,Int.toNat (gN l k).2<n)∧K [.rnd [0,0,1,0,1,1,1,1,1,1] M,.blk 0,.at [1,1,1,1,1,1,1]] (St.mk [(9,.v (qA (IntKind.wrap .i64 ((↑k:Int)-(1:Int))))),(7,.o 0),(8,.o 1),(5,.o 2)] [.rowc 4 1 n (.upd (.fn (cB w)) (Int.toNat (gN l k).2) 0 [.v (.bool true)]),.rowc 3 1 (m+1) (.app m (.fn (cI out)) (.lit 1 [.v (qA (↑k:Int))])),.rowc 173 1 n (.fn (cS l))])):=by kernel_rfl
theorem coq(l:List Nd)(w:List Bool)(out:List Int)(n k m M:Nat)(K:List It→St→Prop)(R:SV→List HO→Prop):W (xwp Try.prog X K13 [(135,[]),(139,[]),(142,[]),(150,[])] 60 (qO Try.f75 [([0,1,0,1,1,1,1,0,0,1,0,0,1,0,1,1,1,1,1,1],3)] [⟨[0,1,0,1,1,1,1,1,1],[9,7,8,5],[(8,3,1)]⟩]) [.as 55 (.v (.iface 176 (.agg #[.int .i64 (gN l k).op,.int .i64 (gN l k).a,.int .i64 (gN l k).b])))] (.at [0,0,1,0,1,1,1,1,1,1]::.rnd [0,0,1,0,1,1,1,1,1,1] M::[.blk 0,.at [1,1,1,1,1,1,1]]) ⟨[(9,.v (.int .i64 (k:Int))),(7,.o 0),(8,.o 1),(5,.o 2)],[.rowc 4 1 n (.fn (cB w)),.rowc 3 1 m (.fn (cI out)),.rowc 173 1 n (.fn (cS l))]⟩ K R)=W ((∀ M:Mem,(0:Int)≤(↑k:Int)∧(↑k:Int)<(↑n:Int))∧(∀ M:Mem,k<n)∧bif !gB w k then K [.rnd [0,0,1,0,1,1,1,1,1,1] M,.blk 0,.at [1,1,1,1,1,1,1]] (St.mk [(9,.v (qA (IntKind.wrap .i64 ((↑k:Int)-(1:Int))))),(7,.o 0),(8,.o 1),(5,.o 2)] [.rowc 4 1 n (.fn (cB w)),.rowc 3 1 m (.fn (cI out)),.rowc 173 1 n (.fn (cS l))]) else(∀ M:Mem,(m+1)*8≤140737488355328∧m+1≤140737488355328)∧(∀ M:Mem,(0:Int)≤(↑k:Int)∧(↑k:Int)<(↑n:Int))∧(∀ M:Mem,k<n)∧(∀ M:Mem,stV (gN l k)=Value.iface 176 (Value.agg (Array.mk [qA (gN l k).1,qA (gN l k).2,qA (gN l k).3])))∧K [.rnd [0,0,1,0,1,1,1,1,1,1] M,.blk 0,.at [1,1,1,1,1,1,1]] (St.mk [(9,.v (qA (IntKind.wrap .i64 ((↑k:Int)-(1:Int))))),(7,.o 0),(8,.o 1),(5,.o 2)] [.rowc 4 1 n (.fn (cB w)),.rowc 3 1 (m+1) (.app m (.fn (cI out)) (.lit 1 [.v (qA (↑k:Int))])),.rowc 173 1 n (.fn (cS l))])):=by kernel_rfl
theorem coE(l:List Nd)(w:List Bool)(out:List Int)(n k m M:Nat)(K:List It→St→Prop)(R:SV→List HO→Prop):W (xwp Try.prog X K13 [(135,[]),(139,[]),(142,[]),(150,[])] 60 (qO Try.f75 [([0,1,0,1,1,1,1,0,0,1,0,0,1,0,1,1,1,1,1,1],3)] [⟨[0,1,0,1,1,1,1,1,1],[9,7,8,5],[(8,3,1)]⟩]) [] (.at [0,0,1,0,1,1,1,1,1,1]::.rnd [0,0,1,0,1,1,1,1,1,1] M::[.blk 0,.at [1,1,1,1,1,1,1]]) ⟨[(9,.v (.int .i64 (-1))),(7,.o 0),(8,.o 1),(5,.o 2)],[.rowc 4 1 n (.fn (cB w)),.rowc 3 1 m (.fn (cI out)),.rowc 173 1 n (.fn (cS l))]⟩ K R)=W (∃(l:List Int),m=List.length l∧IsC m 1 (cI out) (cI l)∧List.length l≤4398046511104∧R (.o 0) [.rowc 3 1 l.length (.fn (cI (List.reverseAux l [])))]):=by kernel_rfl
theorem coS(b:Bool)(l:List Nd)(root:Int)(K:List It→St→Prop)(R:SV→List HO→Prop):W (xwp Try.prog X K13 [(135,[]),(139,[]),(142,[]),(150,[])] 60 (qO Try.f75 [([0,1,0,1,1,1,1,0,0,1,0,0,1,0,1,1,1,1,1,1],3)] [⟨[0,1,0,1,1,1,1,1,1],[9,7,8,5],[(8,3,1)]⟩]) [] [.at []] ⟨qQ 0 [.x 0 [],.v (.int .i64 root)],[.ext b (.s false 7 l.length (cN l))]⟩ K R)=W (∃(l_1:List Nd),List.length l=List.length l_1∧IsC l.length 7 (cN l) (cN l_1)∧List.length l_1≤4398046511104∧bif jT 0 l_1 then bif decide (root<(0:Int)) then R (.v (Value.slice none 0 0)) [] else bif decide ((↑l.length:Int)≤root) then R (.v (Value.slice none 0 0)) [] else(∀ M:Mem,(0:Int)≤(↑l.length:Int)∧(↑l.length:Int)≤(↑l.length:Int)∧(1:Int)*(↑l.length:Int)≤(281474976710656:Int)∧(↑l.length:Int)≤(9223372036854775807:Int))∧(∀ M:Mem,(0:Int)≤root∧root<(↑l.length:Int))∧(∀ M:Mem,Int.toNat root<List.length l)∧K [.at [0,1,0,1,1,1,1,1,1],.blk 0,.at [1,1,1,1,1,1,1]] (St.mk [(9,.v (qA root)),(7,.o 0),(8,.o 1),(5,.o 2)] [.rowc 4 1 l.length (.upd (Ct.zero [Value.bool false]) (Int.toNat root) 0 [.v (.bool true)]),.rowc 3 1 0 (.lit 1 []),.rowc 173 1 l.length (.fn (cS l_1))]) else R (.v (Value.slice none 0 0)) []):=by kernel_rfl
theorem qRs(all:List Nd)(ho:jT 0 all=true)(hb:all.length≤2513169434916)(Q:SV→List HO→Prop)(res:List Int)(hq:Q (.o 0) [.rowc 3 1 res.reverse.length (.fn (cI res.reverse))]):
  ∀(k:Nat) (w:List Bool) (out:List Int),k≤all.length→w.length=all.length→out.length+k≤all.length→qHo all k w out=res →
  FOk Try.prog Try.f75 Q (.rnd [0,0,1,0,1,1,1,1,1,1] (k+1)::[.blk 0,.at [1,1,1,1,1,1,1]]) ⟨[(9,.v (.int .i64 ((k:Int)-1))),(7,.o 0),(8,.o 1),(5,.o 2)],[.rowc 4 1 all.length (.fn (cB w)),.rowc 3 1 out.length (.fn (cI out)),.rowc 173 1 all.length (.fn (cS all))]⟩
 | 0,w,out,hk,hw,hl,he=>by
  rw[show((0:Nat):Int)-1 = -1 by omega]
  refine FOk.rnd (qE hm 60 ((coE all w out all.length 0 out.length 0 _ _).mpr ⟨?_⟩))
  rw[qHo] at he
  subst he
  exact⟨out,rfl,IsC.refl _ _ _,by omega,by rw[List.length_reverse] at hq; exact hq⟩
 | k+1,w,out,hk,hw,hl,he=>by
  have hlt:k<all.length:=by omega
  have hop:=qHf all 0 ho _ (qSu hlt)
  have hu:=qVn (qHj ho k (gN all k) (by rw[gN,List.getD_eq_getElem?_getD,List.getElem?_eq_getElem hlt]; rfl))
  rw[show((k+1:Nat):Int)-1=(k:Int) by omega]
  have no:gB w k=false→FOk Try.prog Try.f75 Q (.rnd [0,0,1,0,1,1,1,1,1,1] (k+1)::[.blk 0,.at [1,1,1,1,1,1,1]]) ⟨[(9,.v (.int .i64 (IntKind.wrap .i64 ((k:Int)-1)))),(7,.o 0),(8,.o 1),(5,.o 2)],[.rowc 4 1 all.length (.fn (cB w)),.rowc 3 1 out.length (.fn (cI out)),.rowc 173 1 all.length (.fn (cS all))]⟩:=fun h=>by
   rw[qEf _ (by omega)]
   exact qRs all ho hb Q res hq k w out (by omega) hw (by omega) (by rw[← he,zPi out h])
  have yes:∀ c:Ct,gB w k=true→IsC all.length 1 c.at (Ct.fn (cB ((qCd (gN all k)).foldl (fun w j=>w.set j.toNat true) w))).at→FOk Try.prog Try.f75 Q (.rnd [0,0,1,0,1,1,1,1,1,1] (k+1)::[.blk 0,.at [1,1,1,1,1,1,1]]) ⟨[(9,.v (.int .i64 (IntKind.wrap .i64 ((k:Int)-1)))),(7,.o 0),(8,.o 1),(5,.o 2)],[.rowc 4 1 all.length c,.rowc 3 1 (out.length+1) (.app out.length (.fn (cI out)) (.lit 1 [.v (.int .i64 (k:Int))])),.rowc 173 1 all.length (.fn (cS all))]⟩:=fun c h hc=>by
   rw[qEf _ (by omega)]
   have next:=qRs all ho hb Q res hq k (qBa all k w) (out++[(k:Int)]) (by omega) (by rw[zCh]; exact hw) (by simp; omega) (by rw[← he,zJi out h])
   rw[List.length_append,List.length_singleton,zEw hlt h] at next
   exact FOk.cv next ⟨⟨rfl,rfl,rfl,hc⟩,⟨rfl,rfl,rfl,qRk (k:Int) rfl⟩,HE.refl _,trivial⟩
  by_cases h:(gN all k).op=1
  ·have us:qCd (gN all k)=_:=(qCc _).trans (zTr _ _ (by omega))
   rw[us] at hu yes
   refine FOk.rnd (qE hm 60 ((coc all w out all.length k out.length (k+1) _ _).mpr ⟨?_⟩))
   simp only[zC,forall_const]
   refine And.intro (by omega) (And.intro (by omega) (qK (fun hg=>?_) (fun hg=>?_)))
   ·repeat' (first | refine And.intro ?_ ?_ | refine qK (fun _=>?_) (fun _=>?_))
    all_goals first
     | omega
     | exact qUr h
     | exact yes _ hg (IsC.refl _ _ _)
   ·exact no hg
  by_cases h:(gN all k).op=5
  ·have us:qCd (gN all k)=_:=(qCc _).trans (zTb _ _ (by omega))
   rw[us] at hu yes
   have u1:=hu (gN all k).a (by simp)
   refine FOk.rnd (qE hm 60 ((con all w out all.length k out.length (k+1) _ _).mpr ⟨?_⟩))
   simp only[zC,forall_const]
   refine And.intro (by omega) (And.intro (by omega) (qK (fun hg=>?_) (fun hg=>?_)))
   ·repeat' (first | refine And.intro ?_ ?_ | refine qK (fun _=>?_) (fun _=>?_))
    all_goals first
     | omega
     | exact qVh h
     | exact yes _ hg (qMi true hw (by omega))
   ·exact no hg
  by_cases h:(gN all k).op=6
  ·have us:qCd (gN all k)=_:=(qCc _).trans (zTf _ _ (by omega))
   rw[us] at hu yes
   have u1:=hu (gN all k).a (by simp)
   have u2:=hu (gN all k).b (by simp)
   refine FOk.rnd (qE hm 60 ((coa all w out all.length k out.length (k+1) _ _).mpr ⟨?_⟩))
   simp only[zC,forall_const]
   refine And.intro (by omega) (And.intro (by omega) (qK (fun hg=>?_) (fun hg=>?_)))
   ·repeat' (first | refine And.intro ?_ ?_ | refine qK (fun _=>?_) (fun _=>?_))
    all_goals first
     | omega
     | exact qUc h
     | exact yes _ hg (zAk hw (by omega) (by omega))
   ·exact no hg
  by_cases h:(gN all k).op=7
  ·have us:qCd (gN all k)=_:=(qCc _).trans (zTf _ _ (by omega))
   rw[us] at hu yes
   have u1:=hu (gN all k).a (by simp)
   have u2:=hu (gN all k).b (by simp)
   refine FOk.rnd (qE hm 60 ((com all w out all.length k out.length (k+1) _ _).mpr ⟨?_⟩))
   simp only[zC,forall_const]
   refine And.intro (by omega) (And.intro (by omega) (qK (fun hg=>?_) (fun hg=>?_)))
   ·repeat' (first | refine And.intro ?_ ?_ | refine qK (fun _=>?_) (fun _=>?_))
    all_goals first
     | omega
     | exact qWm h
     | exact yes _ hg (zAk hw (by omega) (by omega))
   ·exact no hg
  by_cases h:(gN all k).op=8
  ·have us:qCd (gN all k)=_:=(qCc _).trans (zTb _ _ (by omega))
   rw[us] at hu yes
   have u1:=hu (gN all k).a (by simp)
   refine FOk.rnd (qE hm 60 ((cos all w out all.length k out.length (k+1) _ _).mpr ⟨?_⟩))
   simp only[zC,forall_const]
   refine And.intro (by omega) (And.intro (by omega) (qK (fun hg=>?_) (fun hg=>?_)))
   ·repeat' (first | refine And.intro ?_ ?_ | refine qK (fun _=>?_) (fun _=>?_))
    all_goals first
     | omega
     | exact qVj h
     | exact yes _ hg (qMi true hw (by omega))
   ·exact no hg
  by_cases h:2≤(gN all k).op∧(gN all k).op≤4
  ·have us:qCd (gN all k)=_:=(qCc _).trans (zTr _ _ (by omega))
   rw[us] at hu yes
   refine FOk.rnd (qE hm 60 ((coq all w out all.length k out.length (k+1) _ _).mpr ⟨?_⟩))
   simp only[zC,forall_const]
   refine And.intro (by omega) (And.intro (by omega) (qK (fun hg=>?_) (fun hg=>?_)))
   ·repeat' (first | refine And.intro ?_ ?_ | refine qK (fun _=>?_) (fun _=>?_))
    all_goals first
     | omega
     | exact qMq h
     | exact yes _ hg (IsC.refl _ _ _)
   ·exact no hg
  omega
theorem bCo:Try.f75.body.isSome=true:=by kernel_rfl
theorem nCo(r:Int):Nat.ble [SV.x 0 [],.v (.int .i64 r)].length Try.f75.ntmps=true:=by kernel_rfl
theorem zHm(b:Bool)(all:List Nd)(root:Int)(hb:all.length≤2513169434916)(Q:SV→List HO→Prop)(hq1:(¬ jT 0 all=true∨root<0∨(all.length:Int)≤root)→Q (.v (.slice none 0 0)) [])(hq:jT 0 all=true→0≤root∧root<(all.length:Int)→Q (.o 0) [.rowc 3 1 (yG all root).length (.fn (cI (yG all root)))]):qI Try.prog 75 [.x 0 [],.v (.int .i64 root)] [.ext b (.s false 7 all.length (cN all))] Q:=by
 refine qJ Try.func75 bCo ?_ ?_
 ·exact nCo root
 refine qE hm 60 ((coS b all root _ _).mpr ⟨?_⟩)
 simp only[qF,forall_const]
 refine⟨all,rfl,IsC.refl _ _ _,by omega,qK (fun ho=>?_) (fun ho=>?_)⟩
 ·refine qH (fun h=>hq1 (.inr (.inl h))) (fun h0=>qH (fun h=>hq1 (.inr (.inr h))) (fun h1=>?_))
  refine And.intro (by omega) (And.intro (by omega) (And.intro (by omega) ?_))
  have hc:=hq ho ⟨by omega,by omega⟩
  rw[zHc ho root (by omega) (by omega)] at hc
  have lp:=qRs all ho hb Q _ hc (root.toNat+1) ((List.replicate all.length false).set root.toNat true) [] (by omega) (by simp) (by simp; omega) rfl
  rw[show((root.toNat+1:Nat):Int)-1=root by omega] at lp
  refine FOk.loop (root.toNat+1+1) (by kernel_rfl) (FOk.cv lp ⟨⟨rfl,rfl,rfl,?_⟩,⟨rfl,rfl,rfl,fun k hk=>by simp at hk⟩,HE.refl _,trivial⟩)
  exact IsC.trans (qKl (zIz all.length) root.toNat 0 [.v (.bool true)]) (qMi true (by simp) (by omega))
 ·exact hq1 (.inl (by rw[ho]; simp))
end Go.Proofs.Ytlmjdcbhpffanaa
/- An empty answer told as a row; the cone as a contract. -/
namespace Go.Sx
open Go.RowKit
theorem qI.nil{P:Program}{m:Nat}{f:FuncId}{args:List SV}{h:List HO}{Q:SV→List HO→Prop}(T:TypeId)(sz:Nat)(k:zL P m f args h fun r h'=>Q r h'∨(r=.v (.slice none 0 0)∧h'=[]∧Q (.o 0) [.rowc T sz 0 (.lit 1 [])])):zL P m f args h Q:=by
 intro F hF w0 e hm0 S hw
 refine(k F hF w0 e hm0 S hw).mono fun E w' hE=>?_
 obtain⟨e',r,h',hq,h2,h3,h4⟩:=hE
 rcases hq with hq | ⟨rfl,rfl,hq⟩
 ·exact⟨e',r,h',hq,h2,h3,h4⟩
 ·refine⟨e'.setR 0 (.slice none 0 0),.o 0,_,hq,Nat.zero_lt_one,?_,by rw[h4]; simp [den,Env.setR]⟩
  exact h3.newRowc hF (w':=w') T sz 0 _ (.slice none 0 0) (fun _=>⟨[],World.ownsRow_nil w' 0 T sz,fun u hu=>(by cases hu),fun k hk=>by omega⟩) (fun b hb=>by cases hb) ⟨rfl,rfl,rfl,Nat.le_refl _,fun _ _ _=>rfl⟩
end Go.Sx
namespace Go.Pl
theorem zDw{l:List Nd}{root:Int}(h:¬ jT 0 l=true∨root<0∨(l.length:Int)≤root):yG l root=[]:=by
 rw[yG,if_neg (fun hh=>h.elim (fun h=>h hh.1) (fun h=>by have:=hh.2; omega))]
end Go.Pl
namespace Go.Proofs.Ytlmjdcbhpffanaa
open Go.Sx Go.Pl
set_option linter.unusedVariables false
noncomputable def gCo:List SV→List HO→Option ((SV→List HO→Prop)→Prop)
 | [.x 0 [],.v (.int .i64 root)],[.ext _ (.s false 7 n c)]=>some fun Q=>∃ l:List Nd,n=l.length∧IsC n 7 c (cN l)∧l.length≤2513169434916∧Q (.o 0) [.rowc 3 1 (yG l root).length (.fn (cI (yG l root)))]
 | _,_=>none
theorem zMe(args:List SV)(h:List HO)(tr:(SV→List HO→Prop)→Prop)(Q:SV→List HO→Prop)(hc:gCo args h=some tr)(ht:tr Q):qI Try.prog 75 args h Q:=by
 unfold gCo at hc
 split at hc
 ·rename_i root b n c
  simp only[sI] at hc
  subst hc
  obtain⟨l,rfl,he,hb,hq⟩:=ht
  refine qI.mono (qI.eqv (r0:=.o 0) (h0:=[.rowc 3 1 (yG l root).length (.fn (cI (yG l root)))]) ?_) (fun r h' hh=>by rw[hh.1,hh.2]; exact hq)
  refine qI.ac (qI.nil 3 1 (zHm b l root hb _ (fun hbad=>?_) (fun h1 h2=>.inl ⟨rfl,HEs.refl _⟩))) ⟨⟨rfl,rfl,rfl,rfl,he⟩,trivial⟩
  rw[zDw hbad]
  exact .inr ⟨rfl,rfl,rfl,⟨rfl,rfl,rfl,fun k hk=>by simp at hk⟩,trivial⟩
 ·cases hc
noncomputable def K15:Con Try.prog:=K13.add 75 gCo zMe
end Go.Proofs.Ytlmjdcbhpffanaa
/- The document's cone. -/
namespace Go.Pl
open Go.Sx
theorem qXo{l:List Int}{k:Nat}(h:k<l.length):gI l k∈l:=by
 rw[gI,List.getD_eq_getElem?_getD,List.getElem?_eq_getElem h]; exact List.getElem_mem h
end Go.Pl
namespace Go.Proofs.Ytlmjdcbhpffanaa
open Go.Sx Go.Pl
set_option linter.unusedVariables false
set_option maxRecDepth 100000
noncomputable def K16:Con Try.prog:=K15
end Go.Proofs.Ytlmjdcbhpffanaa
/- A run of plain numbers: the law's calls whose answers are fixed. -/
namespace Go.Proofs.Ytlmjdcbhpffanaa
open Go.Sx Go.Pl
set_option linter.unusedVariables false
set_option maxRecDepth 100000
end Go.Proofs.Ytlmjdcbhpffanaa
/- Sums and differences of words. -/
namespace Go.Pl
open Go.Sx
theorem zCf(a0 a1 a2 a3 b0 b1 b2 b3 c1 c2 c3 c4 s0 s1 s2 s3:Nat)(h0:a0+b0=s0+18446744073709551616*c1)(h1:a1+b1+c1=s1+18446744073709551616*c2)(h2:a2+b2+c2=s2+18446744073709551616*c3)(h3:a3+b3+c3=s3+18446744073709551616*c4):nv a0 a1 a2 a3+nv b0 b1 b2 b3=nv s0 s1 s2 s3+top*c4:=by
 simp only[nv,top]; omega
theorem zBw(a0 a1 a2 a3 b0 b1 b2 b3 c1 c2 c3 c4 s0 s1 s2 s3:Nat)(h0:a0+18446744073709551616*c1=s0+b0)(h1:a1+18446744073709551616*c2=s1+b1+c1)(h2:a2+18446744073709551616*c3=s2+b2+c2)(h3:a3+18446744073709551616*c4=s3+b3+c3):nv a0 a1 a2 a3+top*c4=nv s0 s1 s2 s3+nv b0 b1 b2 b3:=by
 simp only[nv,top]; omega
theorem qLk(x y c:Nat):x+y+c=jU x y c+18446744073709551616*zR x y c∧jU x y c<18446744073709551616:=by
 rw[zAh,qRd]; omega
theorem zAp(x y c:Nat)(hx:x<18446744073709551616)(hy:y<18446744073709551616)(hc:c≤1):x+18446744073709551616*yY x y c=qFi x y c+y+c∧qFi x y c<18446744073709551616∧yY x y c≤1:=by
 rw[zAt,zAr]; split <;> omega
theorem qRf(x y c:Nat)(hx:x<18446744073709551616)(hy:y<18446744073709551616)(hc:c≤1):zR x y c≤1:=by
 rw[qRd]; omega
theorem qEq(a:Nat)(ha:a<top):nv (qC a 0) (qC a 1) (qC a 2) (qC a 3)=a:=by rw[qGp,Nat.mod_eq_of_lt ha]
theorem zJh:0<top:=by simp only[top]; omega
theorem wF(n c:Nat)(i:Nat)(hi:i<4):qC (n+top*c) i=qC n i:=by
 have h1:=qWj (n+top*c)
 rw[Nat.add_mul_mod_self_left] at h1
 have h2:=qWj n
 match i,hi with
 | 0,_=>rw[← h1.1,h2.1]
 | 1,_=>rw[← h1.2.1,h2.2.1]
 | 2,_=>rw[← h1.2.2.1,h2.2.2.1]
 | 3,_=>rw[← h1.2.2.2,h2.2.2.2]
theorem zCi(a b:Nat)(ha:a<top)(hb:b<top):∃ c1 c2 c3 c4:Nat,zR (qC a 0) (qC b 0) 0=c1∧zR (qC a 1) (qC b 1) c1=c2∧zR (qC a 2) (qC b 2) c2=c3∧zR (qC a 3) (qC b 3) c3=c4∧c1≤1∧c2≤1∧c3≤1 ∧
  jU (qC a 0) (qC b 0) 0=qC (a+b) 0∧jU (qC a 1) (qC b 1) c1=qC (a+b) 1∧jU (qC a 2) (qC b 2) c2=qC (a+b) 2∧jU (qC a 3) (qC b 3) c3=qC (a+b) 3∧(!((c4:Int)==0))=decide (top≤a+b):=by
 have q0:=qLk (qC a 0) (qC b 0) 0
 have u0:=qRf (qC a 0) (qC b 0) 0 (qV a 0) (qV b 0) (by omega)
 generalize hc1:zR (qC a 0) (qC b 0) 0=c1 at *
 generalize hs0:jU (qC a 0) (qC b 0) 0=s0 at *
 have q1:=qLk (qC a 1) (qC b 1) c1
 have u1:=qRf (qC a 1) (qC b 1) c1 (qV a 1) (qV b 1) (by omega)
 generalize hc2:zR (qC a 1) (qC b 1) c1=c2 at *
 generalize hs1:jU (qC a 1) (qC b 1) c1=s1 at *
 have q2:=qLk (qC a 2) (qC b 2) c2
 have u2:=qRf (qC a 2) (qC b 2) c2 (qV a 2) (qV b 2) (by omega)
 generalize hc3:zR (qC a 2) (qC b 2) c2=c3 at *
 generalize hs2:jU (qC a 2) (qC b 2) c2=s2 at *
 have q3:=qLk (qC a 3) (qC b 3) c3
 generalize hc4:zR (qC a 3) (qC b 3) c3=c4 at *
 generalize hs3:jU (qC a 3) (qC b 3) c3=s3 at *
 have this:=zCf (qC a 0) (qC a 1) (qC a 2) (qC a 3) (qC b 0) (qC b 1) (qC b 2) (qC b 3) c1 c2 c3 c4 s0 s1 s2 s3 q0.1 q1.1 q2.1 q3.1
 rw[qEq a ha,qEq b hb] at this
 have hlt:=zFi q0.2 q1.2 q2.2 q3.2
 obtain⟨l0,l1,l2,l3⟩:=qHx q0.2 q1.2 q2.2 q3.2
 rw[this,wF _ _ 0 (by omega),wF _ _ 1 (by omega),wF _ _ 2 (by omega),wF _ _ 3 (by omega),l0,l1,l2,l3]
 refine⟨c1,c2,c3,c4,by first | rfl | assumption,by first | rfl | assumption,by first | rfl | assumption,by first | rfl | assumption,u0,u1,u2,by first | rfl | assumption,by first | rfl | assumption,by first | rfl | assumption,by first | rfl | assumption,?_⟩
 have ht:(top≤nv s0 s1 s2 s3+top*c4)↔¬ ((c4:Int)=0):=by
  have:=zJh
  constructor
  ·intro h h0
   have h0:c4=0:=by omega
   subst h0
   omega
  ·intro h
   have h1:1≤c4:=by omega
   have:=Nat.mul_le_mul_left top h1
   omega
 rw[Bool.eq_iff_iff,decide_eq_true_iff,ht]
 simp
theorem zCe(a b:Nat)(ha:a<top)(hb:b<top):∃ c1 c2 c3 c4:Nat,yY (qC a 0) (qC b 0) 0=c1∧yY (qC a 1) (qC b 1) c1=c2∧yY (qC a 2) (qC b 2) c2=c3∧yY (qC a 3) (qC b 3) c3=c4∧c1≤1∧c2≤1∧c3≤1 ∧
  qFi (qC a 0) (qC b 0) 0=qC (a+top-b) 0∧qFi (qC a 1) (qC b 1) c1=qC (a+top-b) 1∧qFi (qC a 2) (qC b 2) c2=qC (a+top-b) 2∧qFi (qC a 3) (qC b 3) c3=qC (a+top-b) 3∧(!((c4:Int)==0))=decide (a<b):=by
 have q0:=zAp (qC a 0) (qC b 0) 0 (qV a 0) (qV b 0) (by omega)
 generalize hc1:yY (qC a 0) (qC b 0) 0=c1 at *
 generalize hs0:qFi (qC a 0) (qC b 0) 0=s0 at *
 have q1:=zAp (qC a 1) (qC b 1) c1 (qV a 1) (qV b 1) q0.2.2
 generalize hc2:yY (qC a 1) (qC b 1) c1=c2 at *
 generalize hs1:qFi (qC a 1) (qC b 1) c1=s1 at *
 have q2:=zAp (qC a 2) (qC b 2) c2 (qV a 2) (qV b 2) q1.2.2
 generalize hc3:yY (qC a 2) (qC b 2) c2=c3 at *
 generalize hs2:qFi (qC a 2) (qC b 2) c2=s2 at *
 have q3:=zAp (qC a 3) (qC b 3) c3 (qV a 3) (qV b 3) q2.2.2
 generalize hc4:yY (qC a 3) (qC b 3) c3=c4 at *
 generalize hs3:qFi (qC a 3) (qC b 3) c3=s3 at *
 have this:=zBw (qC a 0) (qC a 1) (qC a 2) (qC a 3) (qC b 0) (qC b 1) (qC b 2) (qC b 3) c1 c2 c3 c4 s0 s1 s2 s3 q0.1 q1.1 q2.1 q3.1
 rw[qEq a ha,qEq b hb] at this
 have hlt:=zFi q0.2.1 q1.2.1 q2.2.1 q3.2.1
 obtain⟨l0,l1,l2,l3⟩:=qHx q0.2.1 q1.2.1 q2.2.1 q3.2.1
 have hc4:=q3.2.2
 have key:(a+top-b=nv s0 s1 s2 s3∨a+top-b=nv s0 s1 s2 s3+top*1)∧(!((c4:Int)==0))=decide (a<b):=by
  have hc:c4=0∨c4=1:=by omega
  rcases hc with rfl | rfl
  ·rw[Nat.mul_zero] at this
   refine⟨.inr (by omega),?_⟩
   rw[decide_eq_false (by omega)]; rfl
  ·rw[Nat.mul_one] at this
   refine⟨.inl (by omega),?_⟩
   rw[decide_eq_true (by omega)]; rfl
 refine⟨c1,c2,c3,c4,by first | rfl | assumption,by first | rfl | assumption,by first | rfl | assumption,by first | rfl | assumption,q0.2.2,q1.2.2,q2.2.2,Eq.trans (by first | rfl | assumption) (?_:s0=_),Eq.trans (by first | rfl | assumption) (?_:s1=_),Eq.trans (by first | rfl | assumption) (?_:s2=_),Eq.trans (by first | rfl | assumption) (?_:s3=_),key.2⟩ <;> rcases key.1 with e | e <;> rw[e]
 all_goals first
  | exact l0.symm
  | exact l1.symm
  | exact l2.symm
  | exact l3.symm
  | (rw[wF _ _ 0 (by omega)]; exact l0.symm)
  | (rw[wF _ _ 1 (by omega)]; exact l1.symm)
  | (rw[wF _ _ 2 (by omega)]; exact l2.symm)
  | (rw[wF _ _ 3 (by omega)]; exact l3.symm)
noncomputable abbrev eS (a:Nat):SV:=.agg [.v (.int .u64 (qC a 0:Nat)),.v (.int .u64 (qC a 1:Nat)),.v (.int .u64 (qC a 2:Nat)),.v (.int .u64 (qC a 3:Nat))]
noncomputable abbrev eI (a:Nat):List Int:=[(qC a 0:Int),(qC a 1:Int),(qC a 2:Int),(qC a 3:Int)]
structure c1C (ds : List Int) (k : Nat → Prop) : Prop where
  h : ∃ a : Nat, ds = eI a ∧ a < top ∧ k a
structure c2C (ds es : List Int) (k : Nat → Nat → Prop) : Prop where
  h : ∃ a b : Nat, ds = eI a ∧ es = eI b ∧ a < top ∧ b < top ∧ k a b
theorem zOl{k:Nat→Prop}(a:Nat)(ha:a<top)(h:k a):c1C (eI a) k:=⟨⟨a,rfl,ha,h⟩⟩
theorem wD{k:Nat→Nat→Prop}(a b:Nat)(ha:a<top)(hb:b<top)(h:k a b):c2C (eI a) (eI b) k:=⟨⟨a,b,rfl,rfl,ha,hb,h⟩⟩
noncomputable def qGk(a b:Nat):Nat:=a+top-b
noncomputable def qOe(a b:Nat):Nat:=a+b
end Go.Pl
namespace Go.Proofs.Ytlmjdcbhpffanaa
open Go.Sx Go.Pl
set_option linter.unusedVariables false
set_option maxRecDepth 100000
theorem waS(a b:Nat)(K:List It→St→Prop)(R:SV→List HO→Prop):W (xwp Try.prog X K16 [] 60 (qO Try.f73 [([0,1,0,1,1,1],5)] []) [] [.at []] ⟨qQ 0 [.agg [.v (.int .u64 (qC a 0:Nat)),.v (.int .u64 (qC a 1:Nat)),.v (.int .u64 (qC a 2:Nat)),.v (.int .u64 (qC a 3:Nat))],.agg [.v (.int .u64 (qC b 0:Nat)),.v (.int .u64 (qC b 1:Nat)),.v (.int .u64 (qC b 2:Nat)),.v (.int .u64 (qC b 3:Nat))]],[]⟩ K R)=W ((∀ M:Mem,(0:Int)≤(0:Int)∧(0:Int)<(4:Int))∧(∀ M:Mem,(0:Int)≤(0:Int)∧(0:Int)<(4:Int))∧(∀ M:Mem,(0:Int)≤(↑(qC a 0):Int)∧(0:Int)≤(↑(qC b 0):Int)∧(0:Int)≤(0:Int)∧0≤1)∧(∀ M:Mem,(0:Int)≤(0:Int)∧(0:Int)<(4:Int))∧(∀ M:Mem,0+1≤4)∧(∀ M:Mem,(0:Int)≤(1:Int)∧(1:Int)<(4:Int))∧(∀ M:Mem,(0:Int)≤(1:Int)∧(1:Int)<(4:Int))∧(∀ M:Mem,(0:Int)≤(↑(qC a 1):Int)∧(0:Int)≤(↑(qC b 1):Int)∧(0:Int)≤(↑(zR (qC a 0) (qC b 0) 0):Int)∧zR (qC a 0) (qC b 0) 0≤1)∧(∀ M:Mem,(0:Int)≤(1:Int)∧(1:Int)<(4:Int))∧(∀ M:Mem,1+1≤4)∧(∀ M:Mem,(0:Int)≤(2:Int)∧(2:Int)<(4:Int))∧(∀ M:Mem,(0:Int)≤(2:Int)∧(2:Int)<(4:Int))∧(∀ M:Mem,(0:Int)≤(↑(qC a 2):Int)∧(0:Int)≤(↑(qC b 2):Int)∧(0:Int)≤(↑(zR (qC a 1) (qC b 1) (zR (qC a 0) (qC b 0) 0)):Int)∧zR (qC a 1) (qC b 1) (zR (qC a 0) (qC b 0) 0)≤1)∧(∀ M:Mem,(0:Int)≤(2:Int)∧(2:Int)<(4:Int))∧(∀ M:Mem,2+1≤4)∧(∀ M:Mem,(0:Int)≤(3:Int)∧(3:Int)<(4:Int))∧(∀ M:Mem,(0:Int)≤(3:Int)∧(3:Int)<(4:Int))∧(∀ M:Mem,(0:Int)≤(↑(qC a 3):Int)∧(0:Int)≤(↑(qC b 3):Int)∧(0:Int)≤(↑(zR (qC a 2) (qC b 2) (zR (qC a 1) (qC b 1) (zR (qC a 0) (qC b 0) 0))):Int)∧zR (qC a 2) (qC b 2) (zR (qC a 1) (qC b 1) (zR (qC a 0) (qC b 0) 0))≤1)∧(∀ M:Mem,(0:Int)≤(3:Int)∧(3:Int)<(4:Int))∧(∀ M:Mem,3+1≤4)∧(∀ M:Mem,0+4≤4)∧R (.tup [.agg [.v (qD (↑(jU (qC a 0) (qC b 0) 0):Int)),.v (qD (↑(jU (qC a 1) (qC b 1) (zR (qC a 0) (qC b 0) 0)):Int)),.v (qD (↑(jU (qC a 2) (qC b 2) (zR (qC a 1) (qC b 1) (zR (qC a 0) (qC b 0) 0))):Int)),.v (qD (↑(jU (qC a 3) (qC b 3) (zR (qC a 2) (qC b 2) (zR (qC a 1) (qC b 1) (zR (qC a 0) (qC b 0) 0)))):Int))],.v (.bool !(↑(zR (qC a 3) (qC b 3) (zR (qC a 2) (qC b 2) (zR (qC a 1) (qC b 1) (zR (qC a 0) (qC b 0) 0)))):Int)==(0:Int))]) []):=by kernel_rfl
theorem wsS(a b:Nat)(K:List It→St→Prop)(R:SV→List HO→Prop):W (xwp Try.prog X K16 [] 60 (qO Try.f98 [([0,1,0,1,1,1],5)] []) [] [.at []] ⟨qQ 0 [.agg [.v (.int .u64 (qC a 0:Nat)),.v (.int .u64 (qC a 1:Nat)),.v (.int .u64 (qC a 2:Nat)),.v (.int .u64 (qC a 3:Nat))],.agg [.v (.int .u64 (qC b 0:Nat)),.v (.int .u64 (qC b 1:Nat)),.v (.int .u64 (qC b 2:Nat)),.v (.int .u64 (qC b 3:Nat))]],[]⟩ K R)=W ((∀ M:Mem,(0:Int)≤(0:Int)∧(0:Int)<(4:Int))∧(∀ M:Mem,(0:Int)≤(0:Int)∧(0:Int)<(4:Int))∧(∀ M:Mem,(0:Int)≤(↑(qC a 0):Int)∧(0:Int)≤(↑(qC b 0):Int)∧(0:Int)≤(0:Int)∧0≤1)∧(∀ M:Mem,(0:Int)≤(0:Int)∧(0:Int)<(4:Int))∧(∀ M:Mem,0+1≤4)∧(∀ M:Mem,(0:Int)≤(1:Int)∧(1:Int)<(4:Int))∧(∀ M:Mem,(0:Int)≤(1:Int)∧(1:Int)<(4:Int))∧(∀ M:Mem,(0:Int)≤(↑(qC a 1):Int)∧(0:Int)≤(↑(qC b 1):Int)∧(0:Int)≤(↑(yY (qC a 0) (qC b 0) 0):Int)∧yY (qC a 0) (qC b 0) 0≤1)∧(∀ M:Mem,(0:Int)≤(1:Int)∧(1:Int)<(4:Int))∧(∀ M:Mem,1+1≤4)∧(∀ M:Mem,(0:Int)≤(2:Int)∧(2:Int)<(4:Int))∧(∀ M:Mem,(0:Int)≤(2:Int)∧(2:Int)<(4:Int))∧(∀ M:Mem,(0:Int)≤(↑(qC a 2):Int)∧(0:Int)≤(↑(qC b 2):Int)∧(0:Int)≤(↑(yY (qC a 1) (qC b 1) (yY (qC a 0) (qC b 0) 0)):Int)∧yY (qC a 1) (qC b 1) (yY (qC a 0) (qC b 0) 0)≤1)∧(∀ M:Mem,(0:Int)≤(2:Int)∧(2:Int)<(4:Int))∧(∀ M:Mem,2+1≤4)∧(∀ M:Mem,(0:Int)≤(3:Int)∧(3:Int)<(4:Int))∧(∀ M:Mem,(0:Int)≤(3:Int)∧(3:Int)<(4:Int))∧(∀ M:Mem,(0:Int)≤(↑(qC a 3):Int)∧(0:Int)≤(↑(qC b 3):Int)∧(0:Int)≤(↑(yY (qC a 2) (qC b 2) (yY (qC a 1) (qC b 1) (yY (qC a 0) (qC b 0) 0))):Int)∧yY (qC a 2) (qC b 2) (yY (qC a 1) (qC b 1) (yY (qC a 0) (qC b 0) 0))≤1)∧(∀ M:Mem,(0:Int)≤(3:Int)∧(3:Int)<(4:Int))∧(∀ M:Mem,3+1≤4)∧(∀ M:Mem,0+4≤4)∧R (.tup [.agg [.v (qD (↑(qFi (qC a 0) (qC b 0) 0):Int)),.v (qD (↑(qFi (qC a 1) (qC b 1) (yY (qC a 0) (qC b 0) 0)):Int)),.v (qD (↑(qFi (qC a 2) (qC b 2) (yY (qC a 1) (qC b 1) (yY (qC a 0) (qC b 0) 0))):Int)),.v (qD (↑(qFi (qC a 3) (qC b 3) (yY (qC a 2) (qC b 2) (yY (qC a 1) (qC b 1) (yY (qC a 0) (qC b 0) 0)))):Int))],.v (.bool !(↑(yY (qC a 3) (qC b 3) (yY (qC a 2) (qC b 2) (yY (qC a 1) (qC b 1) (yY (qC a 0) (qC b 0) 0)))):Int)==(0:Int))]) []):=by kernel_rfl
theorem bWa:Try.f73.body.isSome=true:=by kernel_rfl
theorem nWa(a b:Nat):Nat.ble [SV.agg [.v (.int .u64 (qC a 0:Nat)),.v (.int .u64 (qC a 1:Nat)),.v (.int .u64 (qC a 2:Nat)),.v (.int .u64 (qC a 3:Nat))],.agg [.v (.int .u64 (qC b 0:Nat)),.v (.int .u64 (qC b 1:Nat)),.v (.int .u64 (qC b 2:Nat)),.v (.int .u64 (qC b 3:Nat))]].length Try.f73.ntmps=true:=by kernel_rfl
theorem zVu(a b:Nat)(ha:a<top)(hb:b<top)(Q:SV→List HO→Prop)(hq:Q (.tup [.agg [.v (.int .u64 (qC (a+b) 0:Nat)),.v (.int .u64 (qC (a+b) 1:Nat)),.v (.int .u64 (qC (a+b) 2:Nat)),.v (.int .u64 (qC (a+b) 3:Nat))],.v (.bool (decide (top≤a+b)))]) []):qI Try.prog 73 [.agg [.v (.int .u64 (qC a 0:Nat)),.v (.int .u64 (qC a 1:Nat)),.v (.int .u64 (qC a 2:Nat)),.v (.int .u64 (qC a 3:Nat))],.agg [.v (.int .u64 (qC b 0:Nat)),.v (.int .u64 (qC b 1:Nat)),.v (.int .u64 (qC b 2:Nat)),.v (.int .u64 (qC b 3:Nat))]] [] Q:=by
 refine qJ Try.func73 bWa ?_ ?_
 ·exact nWa a b
 refine qE hm 60 ((waS a b _ _).mpr ⟨?_⟩)
 obtain⟨c1,c2,c3,c4,h1,h2,h3,h4,u1,u2,u3,s0,s1,s2,s3,hf⟩:=zCi a b ha hb
 simp only[h1,h2,h3,h4,s0,s1,s2,s3,forall_const]
 rw[hf]
 repeat' (first | refine And.intro ?_ ?_)
 all_goals first
  | omega
  | exact hq
noncomputable def gWa:List SV→List HO→Option ((SV→List HO→Prop)→Prop)
 | [.agg [.v (.int .u64 a0),.v (.int .u64 a1),.v (.int .u64 a2),.v (.int .u64 a3)],.agg [.v (.int .u64 b0),.v (.int .u64 b1),.v (.int .u64 b2),.v (.int .u64 b3)]],[]=>some fun Q=>c2C [a0,a1,a2,a3] [b0,b1,b2,b3] fun a b=>Q (.tup [eS (qOe a b),.v (.bool (decide (top≤a+b)))]) []
 | _,_=>none
theorem zPk(args:List SV)(h:List HO)(tr:(SV→List HO→Prop)→Prop)(Q:SV→List HO→Prop)(hc:gWa args h=some tr)(ht:tr Q):qI Try.prog 73 args h Q:=by
 unfold gWa at hc
 split at hc
 ·rename_i a0 a1 a2 a3 b0 b1 b2 b3
  simp only[sI] at hc
  subst hc
  obtain⟨a,b,e1,e2,ha,hb,hq⟩:=ht.h
  simp only[List.cons.injEq,and_true] at e1 e2
  obtain⟨rfl,rfl,rfl,rfl⟩:=e1
  obtain⟨rfl,rfl,rfl,rfl⟩:=e2
  exact zVu a b ha hb Q hq
 ·cases hc
theorem bWs:Try.f98.body.isSome=true:=by kernel_rfl
theorem nWs(a b:Nat):Nat.ble [SV.agg [.v (.int .u64 (qC a 0:Nat)),.v (.int .u64 (qC a 1:Nat)),.v (.int .u64 (qC a 2:Nat)),.v (.int .u64 (qC a 3:Nat))],.agg [.v (.int .u64 (qC b 0:Nat)),.v (.int .u64 (qC b 1:Nat)),.v (.int .u64 (qC b 2:Nat)),.v (.int .u64 (qC b 3:Nat))]].length Try.f98.ntmps=true:=by kernel_rfl
theorem zVp(a b:Nat)(ha:a<top)(hb:b<top)(Q:SV→List HO→Prop)(hq:Q (.tup [.agg [.v (.int .u64 (qC (a+top-b) 0:Nat)),.v (.int .u64 (qC (a+top-b) 1:Nat)),.v (.int .u64 (qC (a+top-b) 2:Nat)),.v (.int .u64 (qC (a+top-b) 3:Nat))],.v (.bool (decide (a<b)))]) []):qI Try.prog 98 [.agg [.v (.int .u64 (qC a 0:Nat)),.v (.int .u64 (qC a 1:Nat)),.v (.int .u64 (qC a 2:Nat)),.v (.int .u64 (qC a 3:Nat))],.agg [.v (.int .u64 (qC b 0:Nat)),.v (.int .u64 (qC b 1:Nat)),.v (.int .u64 (qC b 2:Nat)),.v (.int .u64 (qC b 3:Nat))]] [] Q:=by
 refine qJ Try.func98 bWs ?_ ?_
 ·exact nWs a b
 refine qE hm 60 ((wsS a b _ _).mpr ⟨?_⟩)
 obtain⟨c1,c2,c3,c4,h1,h2,h3,h4,u1,u2,u3,s0,s1,s2,s3,hf⟩:=zCe a b ha hb
 simp only[h1,h2,h3,h4,s0,s1,s2,s3,forall_const]
 rw[hf]
 repeat' (first | refine And.intro ?_ ?_)
 all_goals first
  | omega
  | exact hq
noncomputable def gWs:List SV→List HO→Option ((SV→List HO→Prop)→Prop)
 | [.agg [.v (.int .u64 a0),.v (.int .u64 a1),.v (.int .u64 a2),.v (.int .u64 a3)],.agg [.v (.int .u64 b0),.v (.int .u64 b1),.v (.int .u64 b2),.v (.int .u64 b3)]],[]=>some fun Q=>c2C [a0,a1,a2,a3] [b0,b1,b2,b3] fun a b=>Q (.tup [eS (qGk a b),.v (.bool (decide (a<b)))]) []
 | _,_=>none
theorem zPm(args:List SV)(h:List HO)(tr:(SV→List HO→Prop)→Prop)(Q:SV→List HO→Prop)(hc:gWs args h=some tr)(ht:tr Q):qI Try.prog 98 args h Q:=by
 unfold gWs at hc
 split at hc
 ·rename_i a0 a1 a2 a3 b0 b1 b2 b3
  simp only[sI] at hc
  subst hc
  obtain⟨a,b,e1,e2,ha,hb,hq⟩:=ht.h
  simp only[List.cons.injEq,and_true] at e1 e2
  obtain⟨rfl,rfl,rfl,rfl⟩:=e1
  obtain⟨rfl,rfl,rfl,rfl⟩:=e2
  exact zVp a b ha hb Q hq
 ·cases hc
noncomputable def K18:Con Try.prog:=(K16.add 73 gWa zPk).add 98 gWs zPm
end Go.Proofs.Ytlmjdcbhpffanaa
/- A number of two words by a little modulus: bits.Div64. -/
namespace Go.Pl
open Go.Sx
theorem zJ(z:Int):IntKind.wrap .u64 z=z%18446744073709551616:=by
 simp [IntKind.wrap,IntKind.bits,IntKind.signed]
theorem qJv(n k:Nat):Int.tmod (n:Int) (k:Int)=((n%k:Nat):Int):=by
 rw[Int.tmod_eq_emod_of_nonneg (by omega)]; rfl
theorem qJy(n k:Nat):Int.tdiv (n:Int) (k:Int)=((n / k:Nat):Int):=by
 rw[Int.tdiv_eq_ediv_of_nonneg (by omega)]; rfl
theorem zDx(a:Nat):Int.fdiv (a:Int) 4294967296=((a / 4294967296:Nat):Int):=by
 rw[Int.fdiv_eq_ediv_of_nonneg _ (by omega)]; omega
theorem qAb(a:Nat)(ha:a<18446744073709551616):IntKind.wrap .u64 (a:Int)=(a:Int):=by rw[zJ]; omega
noncomputable def dvQ(y hi lo:Nat):Nat:=yO ((hi*18446744073709551616+lo) / y)
noncomputable def dvR(y hi lo:Nat):Nat:=yO ((hi*18446744073709551616+lo)%y)
theorem zKx(k a b:Nat)(hb:b<2^k):a*2^k|||b=a*2^k+b:=by
 rw[Nat.mul_comm,← Nat.two_pow_add_eq_or_of_lt hb]
theorem zKm(a:Nat)(h:a%4294967296=0):a&&&4294967295=0:=by
 have e:a&&&4294967295=a%4294967296:=Nat.and_two_pow_sub_one_eq_mod a 32
 rw[e,h]
theorem qRv{k:IntKind}{x y:Int}(h:x=y):Value.int k x=Value.int k y:=by rw[h]
theorem qPv(n:Nat)(h:n<18446744073709551616):Int.toNat ((n:Int)%(18446744073709551616:Int))=n:=by omega
theorem qGx(n q:Nat)(hq:0<q):Int.fdiv (n:Int) (q:Int)=((n / q:Nat):Int):=by
 rw[Int.fdiv_eq_ediv_of_nonneg _ (by omega)]
 exact(Int.natCast_ediv n q).symm
theorem qVv(p y X N W:Nat)(hp:0<p)(hy:0<y)(h:p*N=p*(y*X)+W)(hW:W<p*y):N / y=X∧W / p=N%y:=by
 have h1:y*X≤N:=Nat.le_of_mul_le_mul_left (by omega:p*(y*X)≤p*N) hp
 obtain⟨d,rfl⟩:=Nat.exists_eq_add_of_le h1
 rw[Nat.mul_add] at h
 have h2:W=p*d:=by omega
 subst h2
 have h3:d<y:=Nat.lt_of_mul_lt_mul_left hW
 rw[Nat.mul_div_cancel_left _ hp,Nat.mul_add_div hy,Nat.div_eq_of_lt h3,Nat.mul_add_mod,Nat.mod_eq_of_lt h3]
 exact⟨rfl,rfl⟩
noncomputable def dAp(hi _lo:Nat):Nat:=yO (hi*1099511627776)
noncomputable def dUp(hi lo:Nat):Nat:=yO (hi*1099511627776+lo / 16777216)
noncomputable def dVp(_hi lo:Nat):Nat:=yO (lo%16777216*1099511627776)
noncomputable def dCp(_hi lo:Nat):Nat:=yO (lo%16777216*256)
noncomputable def dQp(hi lo:Nat):Nat:=yO (dUp hi lo / 4227465472)
noncomputable def dEp(hi lo:Nat):Nat:=yO (dQp hi lo*4227465472)
noncomputable def dRp(hi lo:Nat):Nat:=yO (dUp hi lo%4227465472)
noncomputable def dNp(hi lo:Nat):Nat:=yO (dRp hi lo*4294967296+dCp hi lo)
noncomputable def dSp(hi lo:Nat):Nat:=yO (dNp hi lo / 4227465472)
noncomputable def dFp(hi lo:Nat):Nat:=yO (dSp hi lo*4227465472)
noncomputable def dTp(hi lo:Nat):Nat:=yO (dNp hi lo%4227465472)
theorem qZb(hi lo:Nat):∃ l1 L:Nat,lo=l1*16777216+L∧L<16777216∧lo / 16777216=l1∧dAp hi lo=hi*1099511627776∧dUp hi lo=hi*1099511627776+l1∧dVp hi lo=L*1099511627776∧dCp hi lo=L*256 ∧
  dUp hi lo=4227465472*dQp hi lo+dRp hi lo∧dRp hi lo<4227465472∧dEp hi lo=dQp hi lo*4227465472∧dNp hi lo=dRp hi lo*4294967296+dCp hi lo∧dNp hi lo=4227465472*dSp hi lo+dTp hi lo∧dTp hi lo<4227465472∧dFp hi lo=dSp hi lo*4227465472 ∧
  dQp hi lo=dUp hi lo / 4227465472∧dSp hi lo=dNp hi lo / 4227465472 :=
 ⟨lo / 16777216,lo%16777216,by omega,Nat.mod_lt _ (by omega),rfl,qM _,qM _,qM _,qM _,by rw[dQp,dRp,qM,qM]; exact(Nat.div_add_mod _ _).symm,by rw[dRp,qM]; exact Nat.mod_lt _ (by omega),
  qM _,qM _,by rw[dSp,dTp,qM,qM]; exact(Nat.div_add_mod _ _).symm,by rw[dTp,qM]; exact Nat.mod_lt _ (by omega),qM _,qM _,qM _⟩
theorem zFk(hi l1 L q1 R q0 R0:Nat)(hU:hi*1099511627776+l1=4227465472*q1+R)(hUN:R*4294967296+L*256=4227465472*q0+R0):
  1099511627776*(hi*18446744073709551616+(l1*16777216+L))=1099511627776*(16513537*(q1*4294967296+q0))+R0*4294967296:=by
 have k1:=congrArg (·*18446744073709551616) hU
 have k2:=congrArg (·*4294967296) hUN
 simp only[Nat.add_mul] at k1 k2
 omega
noncomputable def dAq(hi _lo:Nat):Nat:=yO (hi*1099511627776)
noncomputable def dUq(hi lo:Nat):Nat:=yO (hi*1099511627776+lo / 16777216)
noncomputable def dVq(_hi lo:Nat):Nat:=yO (lo%16777216*1099511627776)
noncomputable def dCq(_hi lo:Nat):Nat:=yO (lo%16777216*256)
noncomputable def dQq(hi lo:Nat):Nat:=yO (dUq hi lo / 4229431552)
noncomputable def dEq(hi lo:Nat):Nat:=yO (dQq hi lo*4229431552)
noncomputable def dRq(hi lo:Nat):Nat:=yO (dUq hi lo%4229431552)
noncomputable def dNq(hi lo:Nat):Nat:=yO (dRq hi lo*4294967296+dCq hi lo)
noncomputable def dSq(hi lo:Nat):Nat:=yO (dNq hi lo / 4229431552)
noncomputable def dFq(hi lo:Nat):Nat:=yO (dSq hi lo*4229431552)
noncomputable def dTq(hi lo:Nat):Nat:=yO (dNq hi lo%4229431552)
theorem qXd(hi lo:Nat):∃ l1 L:Nat,lo=l1*16777216+L∧L<16777216∧lo / 16777216=l1∧dAq hi lo=hi*1099511627776∧dUq hi lo=hi*1099511627776+l1∧dVq hi lo=L*1099511627776∧dCq hi lo=L*256 ∧
  dUq hi lo=4229431552*dQq hi lo+dRq hi lo∧dRq hi lo<4229431552∧dEq hi lo=dQq hi lo*4229431552∧dNq hi lo=dRq hi lo*4294967296+dCq hi lo∧dNq hi lo=4229431552*dSq hi lo+dTq hi lo∧dTq hi lo<4229431552∧dFq hi lo=dSq hi lo*4229431552 ∧
  dQq hi lo=dUq hi lo / 4229431552∧dSq hi lo=dNq hi lo / 4229431552 :=
 ⟨lo / 16777216,lo%16777216,by omega,Nat.mod_lt _ (by omega),rfl,qM _,qM _,qM _,qM _,by rw[dQq,dRq,qM,qM]; exact(Nat.div_add_mod _ _).symm,by rw[dRq,qM]; exact Nat.mod_lt _ (by omega),
  qM _,qM _,by rw[dSq,dTq,qM,qM]; exact(Nat.div_add_mod _ _).symm,by rw[dTq,qM]; exact Nat.mod_lt _ (by omega),qM _,qM _,qM _⟩
theorem zEo(hi l1 L q1 R q0 R0:Nat)(hU:hi*1099511627776+l1=4229431552*q1+R)(hUN:R*4294967296+L*256=4229431552*q0+R0):
  1099511627776*(hi*18446744073709551616+(l1*16777216+L))=1099511627776*(16521217*(q1*4294967296+q0))+R0*4294967296:=by
 have k1:=congrArg (·*18446744073709551616) hU
 have k2:=congrArg (·*4294967296) hUN
 simp only[Nat.add_mul] at k1 k2
 omega
theorem qEx(a b:Int):IntKind.wrap .u64 (IntKind.wrap .u64 a-IntKind.wrap .u64 b)=IntKind.wrap .u64 (a-b):=by
 rw[zJ,zJ,zJ,zJ,← Int.sub_emod]
theorem qAp(a b:Int):IntKind.wrap .u64 (IntKind.wrap .u64 a+b)=IntKind.wrap .u64 (a+b):=by
 rw[zJ,zJ,zJ,Int.emod_add_emod]
theorem qFb{z:Int}{n:Nat}(h:z=n)(hn:n<18446744073709551616):IntKind.wrap .u64 z=n:=by
 rw[zJ,h]
 omega
theorem zDp:IntKind.wrap .u64 ((0:Nat):Int)=0:=rfl
end Go.Pl
namespace Go.Proofs.Ytlmjdcbhpffanaa
open Go.Sx Go.Pl
set_option linter.unusedVariables false
set_option maxRecDepth 100000
theorem dvp(hi lo:Nat)(K:List It→St→Prop)(R:SV→List HO→Prop):W (xwp Try.prog X K18 [(108,[]),(113,[])] 60 (qO Try.f97 [([0,0,1,1,1,1,1,1,1,1,1,1,1,1,1,1],2),([0,0,1,1,1,1,1,1,1,1,1,1,1,1,1,1,1,1,1,1],2)] []) [.f,.f,.as 46 (.v (.int .u64 ((dAp hi lo:Nat):Int))),.as 51 (.v (.int .u64 ((dUp hi lo:Nat):Int))),.as 54 (.v (.int .u64 ((dVp hi lo:Nat):Int))),.as 56 (.v (.int .u64 ((dCp hi lo:Nat):Int))),.as 58 (.v (.int .u64 0)),.as 61 (.v (.int .u64 ((dQp hi lo:Nat):Int))),.as 65 (.v (.int .u64 ((dEp hi lo:Nat):Int))),.as 66 (.v (.int .u64 ((dRp hi lo:Nat):Int))),.f,.f,.as 93 (.v (.int .u64 ((dNp hi lo:Nat):Int))),.as 96 (.v (.int .u64 ((dSp hi lo:Nat):Int))),.as 100 (.v (.int .u64 ((dFp hi lo:Nat):Int))),.as 101 (.v (.int .u64 ((dTp hi lo:Nat):Int))),.f,.f] [.at []] ⟨qQ 0 [.v (.int .u64 (hi:Int)),.v (.int .u64 (lo:Int)),.v (.int .u64 16513537)],[]⟩ K R)=W ((∀ M:Mem,false=false)∧(∀ M:Mem,decide ((16513537:Int)≤(↑hi:Int))=false)∧bif(↑hi:Int)==(0:Int) then(∀ M:Mem,¬(16513537:Int)=(0:Int))∧(∀ M:Mem,¬(16513537:Int)=(0:Int))∧R (.tup [.v (qD (IntKind.wrap IntKind.u64 (Int.tdiv (↑lo:Int) (16513537:Int)))),.v (qD (Int.tmod (↑lo:Int) (16513537:Int)))]) [] else(∀ M:Mem,¬(16:Int)<(0:Int))∧(∀ M:Mem,(0:Int)≤(251:Int)∧(251:Int)<(256:Int))∧(∀ M:Mem,¬(40:Int)<(0:Int))∧(∀ M:Mem,¬(32:Int)<(0:Int))∧(∀ M:Mem,¬(40:Int)<(0:Int))∧(∀ M:Mem,qD (IntKind.wrap IntKind.u64 ((↑hi:Int)*(1099511627776:Int)))=qD (↑(dAp hi lo):Int))∧(∀ M:Mem,¬(24:Int)<(0:Int))∧(∀ M:Mem,qD (IntKind.wrap IntKind.u64 (↑(dAp hi lo%18446744073709551616|||Int.toNat (Int.fdiv (↑lo:Int) (16777216:Int)%(18446744073709551616:Int))):Int))=qD (↑(dUp hi lo):Int))∧(∀ M:Mem,¬(40:Int)<(0:Int))∧(∀ M:Mem,qD (IntKind.wrap IntKind.u64 ((↑lo:Int)*(1099511627776:Int)))=qD (↑(dVp hi lo):Int))∧(∀ M:Mem,¬(32:Int)<(0:Int))∧(∀ M:Mem,qD (Int.fdiv (↑(dVp hi lo):Int) (4294967296:Int))=qD (↑(dCp hi lo):Int))∧(∀ M:Mem,qD (IntKind.wrap IntKind.u64 (↑(dVp hi lo%18446744073709551616&&&4294967295):Int))=qD 0)∧(∀ M:Mem,¬(4227465472:Int)=(0:Int))∧(∀ M:Mem,qD (IntKind.wrap IntKind.u64 (Int.tdiv (↑(dUp hi lo):Int) (4227465472:Int)))=qD (↑(dQp hi lo):Int))∧(∀ M:Mem,qD (IntKind.wrap IntKind.u64 ((↑(dQp hi lo):Int)*(4227465472:Int)))=qD (↑(dEp hi lo):Int))∧(∀ M:Mem,qD (IntKind.wrap IntKind.u64 ((↑(dUp hi lo):Int)-(↑(dEp hi lo):Int)))=qD (↑(dRp hi lo):Int))∧(∀ M:Mem,decide ((4294967296:Int)≤(↑(dQp hi lo):Int))=false)∧(∀ M:Mem,decide (IntKind.wrap IntKind.u64 (IntKind.wrap IntKind.u64 ((4294967296:Int)*(↑(dRp hi lo):Int))+(↑(dCp hi lo):Int))<IntKind.wrap IntKind.u64 ((↑(dQp hi lo):Int)*(0:Int)))=false)∧(∀ M:Mem,qD (IntKind.wrap IntKind.u64 (IntKind.wrap IntKind.u64 (IntKind.wrap IntKind.u64 ((↑(dUp hi lo):Int)*(4294967296:Int))+(↑(dCp hi lo):Int))-IntKind.wrap IntKind.u64 ((↑(dQp hi lo):Int)*(18156825947209203712:Int))))=qD (↑(dNp hi lo):Int))∧(∀ M:Mem,¬(4227465472:Int)=(0:Int))∧(∀ M:Mem,qD (IntKind.wrap IntKind.u64 (Int.tdiv (↑(dNp hi lo):Int) (4227465472:Int)))=qD (↑(dSp hi lo):Int))∧(∀ M:Mem,qD (IntKind.wrap IntKind.u64 ((↑(dSp hi lo):Int)*(4227465472:Int)))=qD (↑(dFp hi lo):Int))∧(∀ M:Mem,qD (IntKind.wrap IntKind.u64 ((↑(dNp hi lo):Int)-(↑(dFp hi lo):Int)))=qD (↑(dTp hi lo):Int))∧(∀ M:Mem,decide ((4294967296:Int)≤(↑(dSp hi lo):Int))=false)∧(∀ M:Mem,decide (IntKind.wrap IntKind.u64 (IntKind.wrap IntKind.u64 ((4294967296:Int)*(↑(dTp hi lo):Int))+(0:Int))<IntKind.wrap IntKind.u64 ((↑(dSp hi lo):Int)*(0:Int)))=false)∧(∀ M:Mem,¬(40:Int)<(0:Int))∧R (.tup [.v (qD (IntKind.wrap IntKind.u64 (IntKind.wrap IntKind.u64 ((↑(dQp hi lo):Int)*(4294967296:Int))+(↑(dSp hi lo):Int)))),.v (qD (Int.fdiv (IntKind.wrap IntKind.u64 (IntKind.wrap IntKind.u64 (IntKind.wrap IntKind.u64 ((↑(dNp hi lo):Int)*(4294967296:Int))+(0:Int))-IntKind.wrap IntKind.u64 ((↑(dSp hi lo):Int)*(18156825947209203712:Int)))) (1099511627776:Int)))]) []):=by kernel_rfl
theorem dvq(hi lo:Nat)(K:List It→St→Prop)(R:SV→List HO→Prop):W (xwp Try.prog X K18 [(108,[]),(113,[])] 60 (qO Try.f97 [([0,0,1,1,1,1,1,1,1,1,1,1,1,1,1,1],2),([0,0,1,1,1,1,1,1,1,1,1,1,1,1,1,1,1,1,1,1],2)] []) [.f,.f,.as 46 (.v (.int .u64 ((dAq hi lo:Nat):Int))),.as 51 (.v (.int .u64 ((dUq hi lo:Nat):Int))),.as 54 (.v (.int .u64 ((dVq hi lo:Nat):Int))),.as 56 (.v (.int .u64 ((dCq hi lo:Nat):Int))),.as 58 (.v (.int .u64 0)),.as 61 (.v (.int .u64 ((dQq hi lo:Nat):Int))),.as 65 (.v (.int .u64 ((dEq hi lo:Nat):Int))),.as 66 (.v (.int .u64 ((dRq hi lo:Nat):Int))),.f,.f,.as 93 (.v (.int .u64 ((dNq hi lo:Nat):Int))),.as 96 (.v (.int .u64 ((dSq hi lo:Nat):Int))),.as 100 (.v (.int .u64 ((dFq hi lo:Nat):Int))),.as 101 (.v (.int .u64 ((dTq hi lo:Nat):Int))),.f,.f] [.at []] ⟨qQ 0 [.v (.int .u64 (hi:Int)),.v (.int .u64 (lo:Int)),.v (.int .u64 16521217)],[]⟩ K R)=W ((∀ M:Mem,false=false)∧(∀ M:Mem,decide ((16521217:Int)≤(↑hi:Int))=false)∧bif(↑hi:Int)==(0:Int) then(∀ M:Mem,¬(16521217:Int)=(0:Int))∧(∀ M:Mem,¬(16521217:Int)=(0:Int))∧R (.tup [.v (qD (IntKind.wrap IntKind.u64 (Int.tdiv (↑lo:Int) (16521217:Int)))),.v (qD (Int.tmod (↑lo:Int) (16521217:Int)))]) [] else(∀ M:Mem,¬(16:Int)<(0:Int))∧(∀ M:Mem,(0:Int)≤(252:Int)∧(252:Int)<(256:Int))∧(∀ M:Mem,¬(40:Int)<(0:Int))∧(∀ M:Mem,¬(32:Int)<(0:Int))∧(∀ M:Mem,¬(40:Int)<(0:Int))∧(∀ M:Mem,qD (IntKind.wrap IntKind.u64 ((↑hi:Int)*(1099511627776:Int)))=qD (↑(dAq hi lo):Int))∧(∀ M:Mem,¬(24:Int)<(0:Int))∧(∀ M:Mem,qD (IntKind.wrap IntKind.u64 (↑(dAq hi lo%18446744073709551616|||Int.toNat (Int.fdiv (↑lo:Int) (16777216:Int)%(18446744073709551616:Int))):Int))=qD (↑(dUq hi lo):Int))∧(∀ M:Mem,¬(40:Int)<(0:Int))∧(∀ M:Mem,qD (IntKind.wrap IntKind.u64 ((↑lo:Int)*(1099511627776:Int)))=qD (↑(dVq hi lo):Int))∧(∀ M:Mem,¬(32:Int)<(0:Int))∧(∀ M:Mem,qD (Int.fdiv (↑(dVq hi lo):Int) (4294967296:Int))=qD (↑(dCq hi lo):Int))∧(∀ M:Mem,qD (IntKind.wrap IntKind.u64 (↑(dVq hi lo%18446744073709551616&&&4294967295):Int))=qD 0)∧(∀ M:Mem,¬(4229431552:Int)=(0:Int))∧(∀ M:Mem,qD (IntKind.wrap IntKind.u64 (Int.tdiv (↑(dUq hi lo):Int) (4229431552:Int)))=qD (↑(dQq hi lo):Int))∧(∀ M:Mem,qD (IntKind.wrap IntKind.u64 ((↑(dQq hi lo):Int)*(4229431552:Int)))=qD (↑(dEq hi lo):Int))∧(∀ M:Mem,qD (IntKind.wrap IntKind.u64 ((↑(dUq hi lo):Int)-(↑(dEq hi lo):Int)))=qD (↑(dRq hi lo):Int))∧(∀ M:Mem,decide ((4294967296:Int)≤(↑(dQq hi lo):Int))=false)∧(∀ M:Mem,decide (IntKind.wrap IntKind.u64 (IntKind.wrap IntKind.u64 ((4294967296:Int)*(↑(dRq hi lo):Int))+(↑(dCq hi lo):Int))<IntKind.wrap IntKind.u64 ((↑(dQq hi lo):Int)*(0:Int)))=false)∧(∀ M:Mem,qD (IntKind.wrap IntKind.u64 (IntKind.wrap IntKind.u64 (IntKind.wrap IntKind.u64 ((↑(dUq hi lo):Int)*(4294967296:Int))+(↑(dCq hi lo):Int))-IntKind.wrap IntKind.u64 ((↑(dQq hi lo):Int)*(18165270196510523392:Int))))=qD (↑(dNq hi lo):Int))∧(∀ M:Mem,¬(4229431552:Int)=(0:Int))∧(∀ M:Mem,qD (IntKind.wrap IntKind.u64 (Int.tdiv (↑(dNq hi lo):Int) (4229431552:Int)))=qD (↑(dSq hi lo):Int))∧(∀ M:Mem,qD (IntKind.wrap IntKind.u64 ((↑(dSq hi lo):Int)*(4229431552:Int)))=qD (↑(dFq hi lo):Int))∧(∀ M:Mem,qD (IntKind.wrap IntKind.u64 ((↑(dNq hi lo):Int)-(↑(dFq hi lo):Int)))=qD (↑(dTq hi lo):Int))∧(∀ M:Mem,decide ((4294967296:Int)≤(↑(dSq hi lo):Int))=false)∧(∀ M:Mem,decide (IntKind.wrap IntKind.u64 (IntKind.wrap IntKind.u64 ((4294967296:Int)*(↑(dTq hi lo):Int))+(0:Int))<IntKind.wrap IntKind.u64 ((↑(dSq hi lo):Int)*(0:Int)))=false)∧(∀ M:Mem,¬(40:Int)<(0:Int))∧R (.tup [.v (qD (IntKind.wrap IntKind.u64 (IntKind.wrap IntKind.u64 ((↑(dQq hi lo):Int)*(4294967296:Int))+(↑(dSq hi lo):Int)))),.v (qD (Int.fdiv (IntKind.wrap IntKind.u64 (IntKind.wrap IntKind.u64 (IntKind.wrap IntKind.u64 ((↑(dNq hi lo):Int)*(4294967296:Int))+(0:Int))-IntKind.wrap IntKind.u64 ((↑(dSq hi lo):Int)*(18165270196510523392:Int)))) (1099511627776:Int)))]) []):=by kernel_rfl
theorem jAx:Try.f97.body.isSome=true:=by kernel_rfl
theorem jAu(hi lo:Nat):Nat.ble [SV.v (.int .u64 (hi:Int)),.v (.int .u64 (lo:Int)),.v (.int .u64 16513537)].length Try.f97.ntmps=true:=by kernel_rfl
theorem zRq(hi lo:Nat)(hh:hi<16513537)(hl:lo<18446744073709551616)(Q0:SV→List HO→Prop)(hq:Q0 (.tup [.v (.int .u64 ((dvQ 16513537 hi lo:Nat):Int)),.v (.int .u64 ((dvR 16513537 hi lo:Nat):Int))]) []):qI Try.prog 97 [.v (.int .u64 (hi:Int)),.v (.int .u64 (lo:Int)),.v (.int .u64 16513537)] [] Q0:=by
 refine qJ Try.func97 jAx ?_ ?_
 ·exact jAu hi lo
 refine qE hm 60 ((dvp hi lo _ _).mpr ⟨?_⟩)
 refine And.intro (fun _=>rfl) (And.intro (fun _=>decide_eq_false (by omega)) ?_)
 rw[zF]
 refine qH (fun h0=>?_) (fun h0=>?_)
 ·have hz:hi=0:=by omega
  subst hz
  refine aI (And.intro (fun _=>by omega) ?_)
  rw[show Int.tdiv (lo:Int) (16513537:Int)=((lo / 16513537:Nat):Int) from qJy lo 16513537,show Int.tmod (lo:Int) (16513537:Int)=((lo%16513537:Nat):Int) from qJv lo 16513537,zJ,
   show((lo / 16513537:Nat):Int)%18446744073709551616=((dvQ 16513537 0 lo:Nat):Int) by rw[dvQ,qM]; omega,show((lo%16513537:Nat):Int)=((dvR 16513537 0 lo:Nat):Int) by rw[dvR,qM]; omega]
  exact hq
 ·obtain⟨l1,L,e0,bL,e1,eA,eU,eV,eC,eUQ,bR,eE,eN,eNS,bT,eF,eQ,eS⟩:=qZb hi lo
  have tq:∀ n:Nat,Int.tdiv (n:Int) (4227465472:Int)=((n / 4227465472:Nat):Int):=fun n=>qJy n 4227465472
  have fq:Int.fdiv (lo:Int) (16777216:Int)=((l1:Nat):Int):=by rw[← e1]; exact qGx lo 16777216 (by omega)
  have fv:∀ n:Nat,Int.fdiv (n:Int) (4294967296:Int)=((n / 4294967296:Nat):Int):=zDx
  have fp:∀ n:Nat,Int.fdiv (n:Int) (1099511627776:Int)=((n / 1099511627776:Nat):Int):=fun n=>qGx n 1099511627776 (by omega)
  generalize hdA:dAp hi lo=A at *
  generalize hdU:dUp hi lo=U at *
  generalize hdV:dVp hi lo=V at *
  generalize hdC:dCp hi lo=C at *
  generalize hdQ:dQp hi lo=Q at *
  generalize hdE:dEp hi lo=E at *
  generalize hdR:dRp hi lo=R at *
  generalize hdN:dNp hi lo=N at *
  generalize hdS:dSp hi lo=S at *
  generalize hdF:dFp hi lo=F at *
  generalize hdT:dTp hi lo=T at *
  clear hdA hdU hdV hdC hdQ hdE hdR hdN hdS hdF hdT
  have b1:l1<1099511627776:=by omega
  clear e1
  have bQ:Q<4294967296:=by omega
  have bC:C<4294967296:=by omega
  have bS:S<4294967296:=by omega
  have hk:=zFk hi l1 L Q R S T (by omega) (by omega)
  obtain⟨g1,g2⟩:=qVv 1099511627776 16513537 (Q*4294967296+S) _ (T*4294967296) (by omega) (by omega) hk (by omega)
  have e9:IntKind.wrap .u64 (IntKind.wrap .u64 (IntKind.wrap .u64 ((N:Int)*(4294967296:Int))+(0:Int))-IntKind.wrap .u64 ((S:Int)*(18156825947209203712:Int)))=((T*4294967296:Nat):Int):=by
   rw[qAp,qEx]
   exact qFb (by omega) (by omega)
  have r1:IntKind.wrap .u64 (IntKind.wrap .u64 ((Q:Int)*(4294967296:Int))+(S:Int))=((dvQ 16513537 hi lo:Nat):Int):=by
   rw[qAp,dvQ,qM,e0,g1]
   exact qFb (by omega) (by omega)
  have r2:Int.fdiv ((T*4294967296:Nat):Int) (1099511627776:Int)=((dvR 16513537 hi lo:Nat):Int):=by
   rw[fp,dvR,qM,e0,g2]
  rw[e9,r1,r2]
  clear r1 r2 e9 g1 g2 hk
  have t1:A%18446744073709551616=A:=Nat.mod_eq_of_lt (by omega)
  have t2:=qPv l1 (by omega)
  have t3:V%18446744073709551616=V:=Nat.mod_eq_of_lt (by omega)
  have ho:A|||l1=U:=by rw[eA,eU]; exact zKx 40 hi l1 b1
  have ha:V&&&4294967295=0:=zKm _ (by omega)
  have hV:IntKind.wrap .u64 ((lo:Int)*(1099511627776:Int))=(V:Int):=by
   have h9:(lo:Int)*(1099511627776:Int)=(l1:Int)*18446744073709551616+(V:Int):=by omega
   rw[zJ,h9]
   omega
  simp only[forall_const,hV,tq,fq,fv,t1,t2,t3,ho,ha,qAp,qEx,zDp,← eQ,← eS]
  have bN:N<18156825947209203712:=by omega
  clear eQ eS ho ha t1 t2 t3 tq fq fv fp
  repeat' (first | refine And.intro ?_ ?_)
  all_goals (first | exact hq | exact True.intro | exact qRv (qFb (by omega) (by omega)) | exact qRv (by omega) | (rw[Int.mul_zero,zJ,zJ]; exact decide_eq_false (by omega)) | exact decide_eq_false (by omega) | omega)
theorem jAq:Try.f97.body.isSome=true:=by kernel_rfl
theorem zZr(hi lo:Nat):Nat.ble [SV.v (.int .u64 (hi:Int)),.v (.int .u64 (lo:Int)),.v (.int .u64 16521217)].length Try.f97.ntmps=true:=by kernel_rfl
theorem zMi(hi lo:Nat)(hh:hi<16521217)(hl:lo<18446744073709551616)(Q0:SV→List HO→Prop)(hq:Q0 (.tup [.v (.int .u64 ((dvQ 16521217 hi lo:Nat):Int)),.v (.int .u64 ((dvR 16521217 hi lo:Nat):Int))]) []):qI Try.prog 97 [.v (.int .u64 (hi:Int)),.v (.int .u64 (lo:Int)),.v (.int .u64 16521217)] [] Q0:=by
 refine qJ Try.func97 jAq ?_ ?_
 ·exact zZr hi lo
 refine qE hm 60 ((dvq hi lo _ _).mpr ⟨?_⟩)
 refine And.intro (fun _=>rfl) (And.intro (fun _=>decide_eq_false (by omega)) ?_)
 rw[zF]
 refine qH (fun h0=>?_) (fun h0=>?_)
 ·have hz:hi=0:=by omega
  subst hz
  refine aI (And.intro (fun _=>by omega) ?_)
  rw[show Int.tdiv (lo:Int) (16521217:Int)=((lo / 16521217:Nat):Int) from qJy lo 16521217,show Int.tmod (lo:Int) (16521217:Int)=((lo%16521217:Nat):Int) from qJv lo 16521217,zJ,
   show((lo / 16521217:Nat):Int)%18446744073709551616=((dvQ 16521217 0 lo:Nat):Int) by rw[dvQ,qM]; omega,show((lo%16521217:Nat):Int)=((dvR 16521217 0 lo:Nat):Int) by rw[dvR,qM]; omega]
  exact hq
 ·obtain⟨l1,L,e0,bL,e1,eA,eU,eV,eC,eUQ,bR,eE,eN,eNS,bT,eF,eQ,eS⟩:=qXd hi lo
  have tq:∀ n:Nat,Int.tdiv (n:Int) (4229431552:Int)=((n / 4229431552:Nat):Int):=fun n=>qJy n 4229431552
  have fq:Int.fdiv (lo:Int) (16777216:Int)=((l1:Nat):Int):=by rw[← e1]; exact qGx lo 16777216 (by omega)
  have fv:∀ n:Nat,Int.fdiv (n:Int) (4294967296:Int)=((n / 4294967296:Nat):Int):=zDx
  have fp:∀ n:Nat,Int.fdiv (n:Int) (1099511627776:Int)=((n / 1099511627776:Nat):Int):=fun n=>qGx n 1099511627776 (by omega)
  generalize hdA:dAq hi lo=A at *
  generalize hdU:dUq hi lo=U at *
  generalize hdV:dVq hi lo=V at *
  generalize hdC:dCq hi lo=C at *
  generalize hdQ:dQq hi lo=Q at *
  generalize hdE:dEq hi lo=E at *
  generalize hdR:dRq hi lo=R at *
  generalize hdN:dNq hi lo=N at *
  generalize hdS:dSq hi lo=S at *
  generalize hdF:dFq hi lo=F at *
  generalize hdT:dTq hi lo=T at *
  clear hdA hdU hdV hdC hdQ hdE hdR hdN hdS hdF hdT
  have b1:l1<1099511627776:=by omega
  clear e1
  have bQ:Q<4294967296:=by omega
  have bC:C<4294967296:=by omega
  have bS:S<4294967296:=by omega
  have hk:=zEo hi l1 L Q R S T (by omega) (by omega)
  obtain⟨g1,g2⟩:=qVv 1099511627776 16521217 (Q*4294967296+S) _ (T*4294967296) (by omega) (by omega) hk (by omega)
  have e9:IntKind.wrap .u64 (IntKind.wrap .u64 (IntKind.wrap .u64 ((N:Int)*(4294967296:Int))+(0:Int))-IntKind.wrap .u64 ((S:Int)*(18165270196510523392:Int)))=((T*4294967296:Nat):Int):=by
   rw[qAp,qEx]
   exact qFb (by omega) (by omega)
  have r1:IntKind.wrap .u64 (IntKind.wrap .u64 ((Q:Int)*(4294967296:Int))+(S:Int))=((dvQ 16521217 hi lo:Nat):Int):=by
   rw[qAp,dvQ,qM,e0,g1]
   exact qFb (by omega) (by omega)
  have r2:Int.fdiv ((T*4294967296:Nat):Int) (1099511627776:Int)=((dvR 16521217 hi lo:Nat):Int):=by
   rw[fp,dvR,qM,e0,g2]
  rw[e9,r1,r2]
  clear r1 r2 e9 g1 g2 hk
  have t1:A%18446744073709551616=A:=Nat.mod_eq_of_lt (by omega)
  have t2:=qPv l1 (by omega)
  have t3:V%18446744073709551616=V:=Nat.mod_eq_of_lt (by omega)
  have ho:A|||l1=U:=by rw[eA,eU]; exact zKx 40 hi l1 b1
  have ha:V&&&4294967295=0:=zKm _ (by omega)
  have hV:IntKind.wrap .u64 ((lo:Int)*(1099511627776:Int))=(V:Int):=by
   have h9:(lo:Int)*(1099511627776:Int)=(l1:Int)*18446744073709551616+(V:Int):=by omega
   rw[zJ,h9]
   omega
  simp only[forall_const,hV,tq,fq,fv,t1,t2,t3,ho,ha,qAp,qEx,zDp,← eQ,← eS]
  have bN:N<18165270196510523392:=by omega
  clear eQ eS ho ha t1 t2 t3 tq fq fv fp
  repeat' (first | refine And.intro ?_ ?_)
  all_goals (first | exact hq | exact True.intro | exact qRv (qFb (by omega) (by omega)) | exact qRv (by omega) | (rw[Int.mul_zero,zJ,zJ]; exact decide_eq_false (by omega)) | exact decide_eq_false (by omega) | omega)
noncomputable def gDv:List SV→List HO→Option ((SV→List HO→Prop)→Prop)
 | [.v (.int .u64 hi),.v (.int .u64 lo),.v (.int .u64 y)],[]=>some fun Q=>∃ h l:Nat,[hi,lo]=[(h:Int),(l:Int)]∧(y=16513537∧h<16513537∨y=16521217∧h<16521217)∧l<18446744073709551616∧Q (.tup [.v (.int .u64 ((dvQ y.toNat h l:Nat):Int)),.v (.int .u64 ((dvR y.toNat h l:Nat):Int))]) []
 | _,_=>none
theorem zQi(args:List SV)(h:List HO)(tr:(SV→List HO→Prop)→Prop)(Q:SV→List HO→Prop)(hc:gDv args h=some tr)(ht:tr Q):qI Try.prog 97 args h Q:=by
 unfold gDv at hc
 split at hc
 ·rename_i hi lo y
  simp only[sI] at hc
  subst hc
  obtain⟨h,l,e1,hy,hl,hq⟩:=ht
  simp only[List.cons.injEq,and_true] at e1
  obtain⟨rfl,rfl⟩:=e1
  rcases hy with ⟨rfl,hy⟩ | ⟨rfl,hy⟩
  ·exact zRq h l hy hl Q hq
  ·exact zMi h l hy hl Q hq
 ·cases hc
noncomputable def K19:Con Try.prog:=K18.add 97 gDv zQi
end Go.Proofs.Ytlmjdcbhpffanaa
/- A number by a little modulus: the field's reduce. -/
namespace Go.Pl
open Go.Sx
noncomputable def fR(p a:Nat):Nat:=yO (a%p)
theorem xX(p a:Nat):fR p a=a%p:=qM _
theorem qBm(y hi lo:Nat):dvR y hi lo=(hi*18446744073709551616+lo)%y:=qM _
theorem zGj(p x y:Nat):(x%p*18446744073709551616+y)%p=(x*18446744073709551616+y)%p:=by
 rw[Nat.add_mod,Nat.mul_mod,Nat.mod_mod,← Nat.mul_mod,← Nat.add_mod]
theorem dv4(p a:Nat)(ha:a<top):dvR p (dvR p (dvR p (dvR p 0 (qC a 3)) (qC a 2)) (qC a 1)) (qC a 0)=a%p:=by
 rw[show dvR p 0 (qC a 3)=qC a 3%p by rw[qBm,Nat.zero_mul,Nat.zero_add]]
 rw[show dvR p (qC a 3%p) (qC a 2)=(qC a 3*18446744073709551616+qC a 2)%p by rw[qBm,zGj]]
 rw[show dvR p ((qC a 3*18446744073709551616+qC a 2)%p) (qC a 1)=((qC a 3*18446744073709551616+qC a 2)*18446744073709551616+qC a 1)%p by rw[qBm,zGj]]
 rw[qBm,zGj]
 congr 1
 have:=qGp a
 rw[Nat.mod_eq_of_lt ha] at this
 simp only[nv] at this
 omega
theorem zKg{x y:Nat}(hx:x<18446744073709551616)(hy:y<18446744073709551616):x|||y<18446744073709551616 :=
 Nat.or_lt_two_pow (n:=64) hx hy
theorem qZ(r:Nat)(h:r<18446744073709551616):qC r 0=r∧qC r 1=0∧qC r 2=0∧qC r 3=0:=by
 have:=qHx (a:=r) (b:=0) (c:=0) (d:=0) h (by omega) (by omega) (by omega)
 rw[show nv r 0 0 0=r by simp [nv]] at this
 exact this
theorem or3(x y z:Nat)(hx:x<18446744073709551616)(hy:y<18446744073709551616)(hz:z<18446744073709551616):
  (IntKind.wrap IntKind.u64 (((x%18446744073709551616|||y%18446744073709551616)%18446744073709551616%18446744073709551616|||z%18446744073709551616:Nat):Int)==(0:Int))=decide (x=0∧y=0∧z=0):=by
 have e1:=zKg hx hy
 have e2:=zKg e1 hz
 rw[Nat.mod_eq_of_lt hx,Nat.mod_eq_of_lt hy,Nat.mod_eq_of_lt hz,Nat.mod_eq_of_lt e1,Nat.mod_eq_of_lt e1,qAb _ e2]
 rw[Bool.eq_iff_iff,beq_iff_eq,decide_eq_true_iff]
 constructor
 ·intro h
  have h1:x|||y|||z=0:=by omega
  rw[Nat.or_eq_zero_iff,Nat.or_eq_zero_iff] at h1
  exact⟨h1.1.1,h1.1.2,h1.2⟩
 ·rintro⟨rfl,rfl,rfl⟩
  rfl
theorem qVk{a:Nat}(ha:a<top)(hz:qC a 1=0∧qC a 2=0∧qC a 3=0):qC a 0=a:=by
 have:=qGp a
 rw[Nat.mod_eq_of_lt ha,hz.1,hz.2.1,hz.2.2] at this
 simp only[nv] at this
 omega
end Go.Pl
namespace Go.Proofs.Ytlmjdcbhpffanaa
open Go.Sx Go.Pl
set_option linter.unusedVariables false
set_option maxRecDepth 100000
theorem zXk(a:Nat)(K:List It→St→Prop)(R:SV→List HO→Prop):W (xwp Try.prog X K19 [] 60 (qO Try.f74 [([0,1,0,1,1,0,1,0,1],5)] []) [] [.at []] ⟨qQ 0 [.agg [.v (.int .u64 16513537),.v (.int .u64 0),.v (.int .u64 0),.v (.int .u64 0),.v (.int .i64 9),.v (.int .u64 16513537),.v (.int .u64 0),.v (.int .u64 0),.v (.int .u64 0),.v (.int .u64 0),.v (.int .u64 0)],.agg [.v (.int .u64 (qC a 0:Nat)),.v (.int .u64 (qC a 1:Nat)),.v (.int .u64 (qC a 2:Nat)),.v (.int .u64 (qC a 3:Nat))]],[]⟩ K R)=W ((∀ M:Mem,(0:Int)≤(1:Int)∧(1:Int)<(4:Int))∧(∀ M:Mem,(0:Int)≤(2:Int)∧(2:Int)<(4:Int))∧(∀ M:Mem,(0:Int)≤(3:Int)∧(3:Int)<(4:Int))∧bif IntKind.wrap IntKind.u64 (↑((qC a 1%18446744073709551616|||qC a 2%18446744073709551616)%18446744073709551616%18446744073709551616|||qC a 3%18446744073709551616):Int)==(0:Int) then(∀ M:Mem,(0:Int)≤(0:Int)∧(0:Int)<(4:Int))∧(∀ M:Mem,¬(16513537:Int)=(0:Int))∧(∀ M:Mem,0+4≤4)∧R (.agg [.v (qD (Int.tmod (↑(qC a 0):Int) (16513537:Int))),.v (qD 0),.v (qD 0),.v (qD 0)]) [] else(∀ M:Mem,(0:Int)≤(3:Int)∧(3:Int)<(4:Int))∧∃(h:Nat),∃(l:Nat),[(0:Int),(↑(qC a 3):Int)]=[(↑h:Int),(↑l:Int)]∧((16513537:Int)=(16513537:Int)∧h<16513537∨(16513537:Int)=(16521217:Int)∧h<16521217)∧l<18446744073709551616∧(∀ M:Mem,(0:Int)≤(2:Int)∧(2:Int)<(4:Int))∧∃(h_1:Nat),∃(l_1:Nat),[(↑(dvR 16513537 h l):Int),(↑(qC a 2):Int)]=[(↑h_1:Int),(↑l_1:Int)]∧((16513537:Int)=(16513537:Int)∧h_1<16513537∨(16513537:Int)=(16521217:Int)∧h_1<16521217)∧l_1<18446744073709551616∧(∀ M:Mem,(0:Int)≤(1:Int)∧(1:Int)<(4:Int))∧∃(h:Nat),∃(l:Nat),[(↑(dvR 16513537 h_1 l_1):Int),(↑(qC a 1):Int)]=[(↑h:Int),(↑l:Int)]∧((16513537:Int)=(16513537:Int)∧h<16513537∨(16513537:Int)=(16521217:Int)∧h<16521217)∧l<18446744073709551616∧(∀ M:Mem,(0:Int)≤(0:Int)∧(0:Int)<(4:Int))∧∃(h_2:Nat),∃(l_2:Nat),[(↑(dvR 16513537 h l):Int),(↑(qC a 0):Int)]=[(↑h_2:Int),(↑l_2:Int)]∧((16513537:Int)=(16513537:Int)∧h_2<16513537∨(16513537:Int)=(16521217:Int)∧h_2<16521217)∧l_2<18446744073709551616∧(∀ M:Mem,0+4≤4)∧R (.agg [.v (qD (↑(dvR 16513537 h_2 l_2):Int)),.v (qD 0),.v (qD 0),.v (qD 0)]) []):=by kernel_rfl
theorem zWu(a:Nat)(K:List It→St→Prop)(R:SV→List HO→Prop):W (xwp Try.prog X K19 [] 60 (qO Try.f74 [([0,1,0,1,1,0,1,0,1],5)] []) [] [.at []] ⟨qQ 0 [.agg [.v (.int .u64 16521217),.v (.int .u64 0),.v (.int .u64 0),.v (.int .u64 0),.v (.int .i64 11),.v (.int .u64 16521217),.v (.int .u64 0),.v (.int .u64 0),.v (.int .u64 0),.v (.int .u64 0),.v (.int .u64 0)],.agg [.v (.int .u64 (qC a 0:Nat)),.v (.int .u64 (qC a 1:Nat)),.v (.int .u64 (qC a 2:Nat)),.v (.int .u64 (qC a 3:Nat))]],[]⟩ K R)=W ((∀ M:Mem,(0:Int)≤(1:Int)∧(1:Int)<(4:Int))∧(∀ M:Mem,(0:Int)≤(2:Int)∧(2:Int)<(4:Int))∧(∀ M:Mem,(0:Int)≤(3:Int)∧(3:Int)<(4:Int))∧bif IntKind.wrap IntKind.u64 (↑((qC a 1%18446744073709551616|||qC a 2%18446744073709551616)%18446744073709551616%18446744073709551616|||qC a 3%18446744073709551616):Int)==(0:Int) then(∀ M:Mem,(0:Int)≤(0:Int)∧(0:Int)<(4:Int))∧(∀ M:Mem,¬(16521217:Int)=(0:Int))∧(∀ M:Mem,0+4≤4)∧R (.agg [.v (qD (Int.tmod (↑(qC a 0):Int) (16521217:Int))),.v (qD 0),.v (qD 0),.v (qD 0)]) [] else(∀ M:Mem,(0:Int)≤(3:Int)∧(3:Int)<(4:Int))∧∃(h:Nat),∃(l:Nat),[(0:Int),(↑(qC a 3):Int)]=[(↑h:Int),(↑l:Int)]∧((16521217:Int)=(16513537:Int)∧h<16513537∨(16521217:Int)=(16521217:Int)∧h<16521217)∧l<18446744073709551616∧(∀ M:Mem,(0:Int)≤(2:Int)∧(2:Int)<(4:Int))∧∃(h_1:Nat),∃(l_1:Nat),[(↑(dvR 16521217 h l):Int),(↑(qC a 2):Int)]=[(↑h_1:Int),(↑l_1:Int)]∧((16521217:Int)=(16513537:Int)∧h_1<16513537∨(16521217:Int)=(16521217:Int)∧h_1<16521217)∧l_1<18446744073709551616∧(∀ M:Mem,(0:Int)≤(1:Int)∧(1:Int)<(4:Int))∧∃(h:Nat),∃(l:Nat),[(↑(dvR 16521217 h_1 l_1):Int),(↑(qC a 1):Int)]=[(↑h:Int),(↑l:Int)]∧((16521217:Int)=(16513537:Int)∧h<16513537∨(16521217:Int)=(16521217:Int)∧h<16521217)∧l<18446744073709551616∧(∀ M:Mem,(0:Int)≤(0:Int)∧(0:Int)<(4:Int))∧∃(h_2:Nat),∃(l_2:Nat),[(↑(dvR 16521217 h l):Int),(↑(qC a 0):Int)]=[(↑h_2:Int),(↑l_2:Int)]∧((16521217:Int)=(16513537:Int)∧h_2<16513537∨(16521217:Int)=(16521217:Int)∧h_2<16521217)∧l_2<18446744073709551616∧(∀ M:Mem,0+4≤4)∧R (.agg [.v (qD (↑(dvR 16521217 h_2 l_2):Int)),.v (qD 0),.v (qD 0),.v (qD 0)]) []):=by kernel_rfl
theorem bRe:Try.f74.body.isSome=true:=by kernel_rfl
theorem zYc(a:Nat):Nat.ble [SV.agg [.v (.int .u64 16513537),.v (.int .u64 0),.v (.int .u64 0),.v (.int .u64 0),.v (.int .i64 9),.v (.int .u64 16513537),.v (.int .u64 0),.v (.int .u64 0),.v (.int .u64 0),.v (.int .u64 0),.v (.int .u64 0)],.agg [.v (.int .u64 (qC a 0:Nat)),.v (.int .u64 (qC a 1:Nat)),.v (.int .u64 (qC a 2:Nat)),.v (.int .u64 (qC a 3:Nat))]].length Try.f74.ntmps=true:=by kernel_rfl
theorem zOf(a:Nat)(ha:a<top)(Q:SV→List HO→Prop)(hq:Q (.agg [.v (.int .u64 ((fR 16513537 a:Nat):Int)),.v (.int .u64 0),.v (.int .u64 0),.v (.int .u64 0)]) []):qI Try.prog 74 [.agg [.v (.int .u64 16513537),.v (.int .u64 0),.v (.int .u64 0),.v (.int .u64 0),.v (.int .i64 9),.v (.int .u64 16513537),.v (.int .u64 0),.v (.int .u64 0),.v (.int .u64 0),.v (.int .u64 0),.v (.int .u64 0)],.agg [.v (.int .u64 (qC a 0:Nat)),.v (.int .u64 (qC a 1:Nat)),.v (.int .u64 (qC a 2:Nat)),.v (.int .u64 (qC a 3:Nat))]] [] Q:=by
 have b0:=qV a 0
 have b1:=qV a 1
 have b2:=qV a 2
 have b3:=qV a 3
 refine qJ Try.func74 bRe ?_ ?_
 ·exact zYc a
 refine qE hm 60 ((zXk a _ _).mpr ⟨?_⟩)
 refine aI (aI (And.intro (fun _=>by omega) ?_))
 rw[or3 _ _ _ b1 b2 b3,qF]
 refine qH (fun hz=>?_) (fun hz=>?_)
 ·refine aI (aI (And.intro (fun _=>by omega) ?_))
  rw[xX] at hq
  rw[qVk ha hz,show Int.tmod (a:Int) (16513537:Int)=((a%16513537:Nat):Int) from qJv a 16513537]
  exact hq
 ·have d3:dvR 16513537 0 (qC a 3)<16513537:=by rw[qBm]; exact Nat.mod_lt _ (by omega)
  have d2:dvR 16513537 (dvR 16513537 0 (qC a 3)) (qC a 2)<16513537:=by rw[qBm]; exact Nat.mod_lt _ (by omega)
  have d1:dvR 16513537 (dvR 16513537 (dvR 16513537 0 (qC a 3)) (qC a 2)) (qC a 1)<16513537:=by rw[qBm]; exact Nat.mod_lt _ (by omega)
  refine And.intro (fun _=>by omega) ⟨0,qC a 3,rfl,by omega,b3,?_⟩
  refine And.intro (fun _=>by omega) ⟨dvR 16513537 0 (qC a 3),qC a 2,rfl,by omega,b2,?_⟩
  refine And.intro (fun _=>by omega) ⟨dvR 16513537 (dvR 16513537 0 (qC a 3)) (qC a 2),qC a 1,rfl,by omega,b1,?_⟩
  refine And.intro (fun _=>by omega) ⟨dvR 16513537 (dvR 16513537 (dvR 16513537 0 (qC a 3)) (qC a 2)) (qC a 1),qC a 0,rfl,by omega,b0,?_⟩
  refine And.intro (fun _=>by omega) ?_
  rw[dv4 16513537 a ha]
  rw[xX] at hq
  exact hq
theorem zZy(a:Nat):Nat.ble [SV.agg [.v (.int .u64 16521217),.v (.int .u64 0),.v (.int .u64 0),.v (.int .u64 0),.v (.int .i64 11),.v (.int .u64 16521217),.v (.int .u64 0),.v (.int .u64 0),.v (.int .u64 0),.v (.int .u64 0),.v (.int .u64 0)],.agg [.v (.int .u64 (qC a 0:Nat)),.v (.int .u64 (qC a 1:Nat)),.v (.int .u64 (qC a 2:Nat)),.v (.int .u64 (qC a 3:Nat))]].length Try.f74.ntmps=true:=by kernel_rfl
theorem zOi(a:Nat)(ha:a<top)(Q:SV→List HO→Prop)(hq:Q (.agg [.v (.int .u64 ((fR 16521217 a:Nat):Int)),.v (.int .u64 0),.v (.int .u64 0),.v (.int .u64 0)]) []):qI Try.prog 74 [.agg [.v (.int .u64 16521217),.v (.int .u64 0),.v (.int .u64 0),.v (.int .u64 0),.v (.int .i64 11),.v (.int .u64 16521217),.v (.int .u64 0),.v (.int .u64 0),.v (.int .u64 0),.v (.int .u64 0),.v (.int .u64 0)],.agg [.v (.int .u64 (qC a 0:Nat)),.v (.int .u64 (qC a 1:Nat)),.v (.int .u64 (qC a 2:Nat)),.v (.int .u64 (qC a 3:Nat))]] [] Q:=by
 have b0:=qV a 0
 have b1:=qV a 1
 have b2:=qV a 2
 have b3:=qV a 3
 refine qJ Try.func74 bRe ?_ ?_
 ·exact zZy a
 refine qE hm 60 ((zWu a _ _).mpr ⟨?_⟩)
 refine aI (aI (And.intro (fun _=>by omega) ?_))
 rw[or3 _ _ _ b1 b2 b3,qF]
 refine qH (fun hz=>?_) (fun hz=>?_)
 ·refine aI (aI (And.intro (fun _=>by omega) ?_))
  rw[xX] at hq
  rw[qVk ha hz,show Int.tmod (a:Int) (16521217:Int)=((a%16521217:Nat):Int) from qJv a 16521217]
  exact hq
 ·have d3:dvR 16521217 0 (qC a 3)<16521217:=by rw[qBm]; exact Nat.mod_lt _ (by omega)
  have d2:dvR 16521217 (dvR 16521217 0 (qC a 3)) (qC a 2)<16521217:=by rw[qBm]; exact Nat.mod_lt _ (by omega)
  have d1:dvR 16521217 (dvR 16521217 (dvR 16521217 0 (qC a 3)) (qC a 2)) (qC a 1)<16521217:=by rw[qBm]; exact Nat.mod_lt _ (by omega)
  refine And.intro (fun _=>by omega) ⟨0,qC a 3,rfl,by omega,b3,?_⟩
  refine And.intro (fun _=>by omega) ⟨dvR 16521217 0 (qC a 3),qC a 2,rfl,by omega,b2,?_⟩
  refine And.intro (fun _=>by omega) ⟨dvR 16521217 (dvR 16521217 0 (qC a 3)) (qC a 2),qC a 1,rfl,by omega,b1,?_⟩
  refine And.intro (fun _=>by omega) ⟨dvR 16521217 (dvR 16521217 (dvR 16521217 0 (qC a 3)) (qC a 2)) (qC a 1),qC a 0,rfl,by omega,b0,?_⟩
  refine And.intro (fun _=>by omega) ?_
  rw[dv4 16521217 a ha]
  rw[xX] at hq
  exact hq
end Go.Proofs.Ytlmjdcbhpffanaa
/- The field's reduce, at all four moduli. -/
namespace Go.Pl
open Go.Sx
inductive qFo : List Int → Nat → Prop where
  | p : qFo [16513537, 0, 0, 0, 9, 16513537, 0, 0, 0, 0, 0] 16513537
  | q : qFo [16521217, 0, 0, 0, 11, 16521217, 0, 0, 0, 0, 0] 16521217
  | r : qFo [11037532056220336129, 2469829653914515739, 0, 4611686018427387904, 32, 0, 11037532056220336127, 10122100416058490895, 15551789045973377255, 8617542898466512152, 679271340751763220] 28948022309329048855892746252171976963363056481941560715954676764349967630337
  | t : qFo [10108024940646105089, 2469829653919213789, 0, 4611686018427387904, 32, 0, 10108024940646105087, 18200867980676431887, 7474641938123724515, 9200329640471491984, 679271340771891881] 28948022309329048855892746252171976963363056481941647379679742748393362948097
structure reC (ns ds : List Int) (k : Nat → Nat → Prop) : Prop where
  h : ∃ P a : Nat, qFo ns P ∧ ds = eI a ∧ a < top ∧ k P a
theorem yV{ns:List Int}{k:Nat→Nat→Prop}(P a:Nat)(hn:qFo ns P)(ha:a<top)(h:k P a):reC ns (eI a) k:=⟨⟨P,a,hn,rfl,ha,h⟩⟩
theorem qRw{ns:List Int}{P:Nat}(h:qFo ns P):2<P∧2*P<top:=by
 simp only[top]
 cases h <;> omega
theorem jP(a b:Nat)(h:b≤a)(i:Nat)(hi:i<4):qC (qGk a b) i=qC (a-b) i:=by
 have:qGk a b=(a-b)+top*1:=by
  rw[qGk,Nat.mul_one]; omega
 rw[this,wF _ _ _ hi]
theorem zBd{a b c d n:Nat}(h:n=nv a b c d)(ha:a<18446744073709551616)(hb:b<18446744073709551616)(hc:c<18446744073709551616)(hd:d<18446744073709551616):qC n 0=a∧qC n 1=b∧qC n 2=c∧qC n 3=d:=by
 rw[h]; exact qHx ha hb hc hd
theorem xE:qC 28948022309329048855892746252171976963363056481941560715954676764349967630337 0=11037532056220336129∧qC 28948022309329048855892746252171976963363056481941560715954676764349967630337 1=2469829653914515739∧qC 28948022309329048855892746252171976963363056481941560715954676764349967630337 2=0∧qC 28948022309329048855892746252171976963363056481941560715954676764349967630337 3=4611686018427387904:=zBd (by simp only[nv]) (by omega) (by omega) (by omega) (by omega)
theorem xF:qC 28948022309329048855892746252171976963363056481941647379679742748393362948097 0=10108024940646105089∧qC 28948022309329048855892746252171976963363056481941647379679742748393362948097 1=2469829653919213789∧qC 28948022309329048855892746252171976963363056481941647379679742748393362948097 2=0∧qC 28948022309329048855892746252171976963363056481941647379679742748393362948097 3=4611686018427387904:=zBd (by simp only[nv]) (by omega) (by omega) (by omega) (by omega)
end Go.Pl
namespace Go.Proofs.Ytlmjdcbhpffanaa
open Go.Sx Go.Pl
set_option linter.unusedVariables false
set_option maxRecDepth 100000
theorem qPh(p a:Nat)(hp:0<p):fR p a<p:=by rw[xX]; exact Nat.mod_lt _ hp
theorem rgS(P:Nat)(ad ng q0 q1 q2 q3:Int)(a:Nat)(K:List It→St→Prop)(R:SV→List HO→Prop):W (xwp Try.prog X K19 [] 60 (qO Try.f74 [] [⟨[0,1,1],[2,3,4],[]⟩]) [] [.at []] ⟨qQ 0 [.agg [.v (.int .u64 (qC P 0:Nat)),.v (.int .u64 (qC P 1:Nat)),.v (.int .u64 (qC P 2:Nat)),.v (.int .u64 (qC P 3:Nat)),.v (.int .i64 ad),.v (.int .u64 0),.v (.int .u64 ng),.v (.int .u64 q0),.v (.int .u64 q1),.v (.int .u64 q2),.v (.int .u64 q3)],.agg [.v (.int .u64 (qC a 0:Nat)),.v (.int .u64 (qC a 1:Nat)),.v (.int .u64 (qC a 2:Nat)),.v (.int .u64 (qC a 3:Nat))]],[]⟩ K R)=W (K [.at [0,1,1],.blk 2] (St.mk [(2,.p 0 0),(3,.p 1 0),(4,.p 2 0)] [.cells [.v (qD (↑(qC P 0):Int)),.v (qD (↑(qC P 1):Int)),.v (qD (↑(qC P 2):Int)),.v (qD (↑(qC P 3):Int)),.v (qA ad),.v (qD 0),.v (qD ng),.v (qD q0),.v (qD q1),.v (qD q2),.v (qD q3)] 121,.cells [.v (qD (↑(qC a 0):Int)),.v (qD (↑(qC a 1):Int)),.v (qD (↑(qC a 2):Int)),.v (qD (↑(qC a 3):Int))] 56,.cells [.v (qD 0),.v (qD 0),.v (qD 0),.v (qD 0)] 56])):=by kernel_rfl
theorem rgL(P:Nat)(ad ng q0 q1 q2 q3:Int)(a:Nat)(d0 d1 d2 d3:Int)(M:Nat)(K:List It→St→Prop)(R:SV→List HO→Prop):W (xwp Try.prog X K19 [] 60 (qO Try.f74 [] [⟨[0,1,1],[2,3,4],[]⟩]) [] (.at [0,0,1,1]::.rnd [0,0,1,1] M::[.blk 2]) ⟨[(2,.p 0 0),(3,.p 1 0),(4,.p 2 0)],[.cells [.v (.int .u64 (qC P 0:Nat)),.v (.int .u64 (qC P 1:Nat)),.v (.int .u64 (qC P 2:Nat)),.v (.int .u64 (qC P 3:Nat)),.v (.int .i64 ad),.v (.int .u64 0),.v (.int .u64 ng),.v (.int .u64 q0),.v (.int .u64 q1),.v (.int .u64 q2),.v (.int .u64 q3)] 121,.cells [.v (.int .u64 (qC a 0:Nat)),.v (.int .u64 (qC a 1:Nat)),.v (.int .u64 (qC a 2:Nat)),.v (.int .u64 (qC a 3:Nat))] 56,.cells [.v (.int .u64 d0),.v (.int .u64 d1),.v (.int .u64 d2),.v (.int .u64 d3)] 56]⟩ K R)=W (c2C (eI a) (eI P) fun(a_1 b:Nat)=>(∀ M:Mem,0+4≤4)∧bif decide (a_1<b) then(∀ M:Mem,0+4≤4)∧R ((eS a)) [] else(∀ M:Mem,0+4≤4)∧K [.rnd [0,0,1,1] M,.blk 2] (St.mk [(2,.p 0 0),(3,.p 1 0),(4,.p 2 0)] [.cells [.v (qD (↑(qC P 0):Int)),.v (qD (↑(qC P 1):Int)),.v (qD (↑(qC P 2):Int)),.v (qD (↑(qC P 3):Int)),.v (qA ad),.v (qD 0),.v (qD ng),.v (qD q0),.v (qD q1),.v (qD q2),.v (qD q3)] 121,.cells [.v (qD (↑(qC (qGk a_1 b) 0):Int)),.v (qD (↑(qC (qGk a_1 b) 1):Int)),.v (qD (↑(qC (qGk a_1 b) 2):Int)),.v (qD (↑(qC (qGk a_1 b) 3):Int))] 56,.cells [.v (qD d0),.v (qD d1),.v (qD d2),.v (qD d3)] 56])):=by kernel_rfl
theorem qZt(P:Nat)(ad ng q0 q1 q2 q3:Int)(hP:P<top)(Q:SV→List HO→Prop):∀(n a:Nat) (d0 d1 d2 d3:Int),a<top→a<(n+1)*P→Q (eS (fR P a)) [] →
  FOk Try.prog Try.f74 Q (.rnd [0,0,1,1] (n+1)::[.blk 2]) ⟨[(2,.p 0 0),(3,.p 1 0),(4,.p 2 0)],[.cells [.v (.int .u64 (qC P 0:Nat)),.v (.int .u64 (qC P 1:Nat)),.v (.int .u64 (qC P 2:Nat)),.v (.int .u64 (qC P 3:Nat)),.v (.int .i64 ad),.v (.int .u64 0),.v (.int .u64 ng),.v (.int .u64 q0),.v (.int .u64 q1),.v (.int .u64 q2),.v (.int .u64 q3)] 121,.cells [.v (.int .u64 (qC a 0:Nat)),.v (.int .u64 (qC a 1:Nat)),.v (.int .u64 (qC a 2:Nat)),.v (.int .u64 (qC a 3:Nat))] 56,.cells [.v (.int .u64 d0),.v (.int .u64 d1),.v (.int .u64 d2),.v (.int .u64 d3)] 56]⟩
 | 0,a,d0,d1,d2,d3,ha,hn,hq=>by
  refine FOk.rnd (qE hm 60 ((rgL P ad ng q0 q1 q2 q3 a d0 d1 d2 d3 0 _ _).mpr ⟨?_⟩))
  refine wD a P ha hP (And.intro (fun _=>by omega) ?_)
  rw[qF,if_pos (by omega)]
  rw[xX,Nat.mod_eq_of_lt (by omega)] at hq
  exact And.intro (fun _=>by omega) hq
 | n+1,a,d0,d1,d2,d3,ha,hn,hq=>by
  refine FOk.rnd (qE hm 60 ((rgL P ad ng q0 q1 q2 q3 a d0 d1 d2 d3 (n+1) _ _).mpr ⟨?_⟩))
  refine wD a P ha hP (And.intro (fun _=>by omega) ?_)
  rw[qF]
  refine qH (fun h=>?_) (fun h=>?_)
  ·rw[xX,Nat.mod_eq_of_lt h] at hq
   exact And.intro (fun _=>by omega) hq
  ·refine And.intro (fun _=>by omega) ?_
   rw[jP a P (by omega) 0 (by omega),jP a P (by omega) 1 (by omega),jP a P (by omega) 2 (by omega),jP a P (by omega) 3 (by omega)]
   refine qZt P ad ng q0 q1 q2 q3 hP Q n (a-P) d0 d1 d2 d3 (by omega) ?_ ?_
   ·rw[Nat.add_mul (n+1) 1 P,Nat.one_mul] at hn; omega
   ·rw[xX,← Nat.mod_eq_sub_mod (by omega),← xX]; exact hq
theorem jAf(P:Nat)(ad ng q0 q1 q2 q3:Int)(a:Nat):Nat.ble [SV.agg [.v (.int .u64 (qC P 0:Nat)),.v (.int .u64 (qC P 1:Nat)),.v (.int .u64 (qC P 2:Nat)),.v (.int .u64 (qC P 3:Nat)),.v (.int .i64 ad),.v (.int .u64 0),.v (.int .u64 ng),.v (.int .u64 q0),.v (.int .u64 q1),.v (.int .u64 q2),.v (.int .u64 q3)],eS a].length Try.f74.ntmps=true:=by kernel_rfl
theorem zFs(P:Nat)(ad ng q0 q1 q2 q3:Int)(hP:P<top)(h4:top≤4*P)(a:Nat)(ha:a<top)(Q:SV→List HO→Prop)(hq:Q (eS (fR P a)) []):qI Try.prog 74 [.agg [.v (.int .u64 (qC P 0:Nat)),.v (.int .u64 (qC P 1:Nat)),.v (.int .u64 (qC P 2:Nat)),.v (.int .u64 (qC P 3:Nat)),.v (.int .i64 ad),.v (.int .u64 0),.v (.int .u64 ng),.v (.int .u64 q0),.v (.int .u64 q1),.v (.int .u64 q2),.v (.int .u64 q3)],eS a] [] Q:=by
 refine qJ Try.func74 bRe ?_ ?_
 ·exact jAf P ad ng q0 q1 q2 q3 a
 refine qE hm 60 ((rgS P ad ng q0 q1 q2 q3 a _ _).mpr ⟨?_⟩)
 exact FOk.loop 4 (by kernel_rfl) (qZt P ad ng q0 q1 q2 q3 hP Q 3 a 0 0 0 0 ha (by omega) hq)
noncomputable def gRe:List SV→List HO→Option ((SV→List HO→Prop)→Prop)
 | [.agg [.v (.int .u64 p0),.v (.int .u64 p1),.v (.int .u64 p2),.v (.int .u64 p3),.v (.int .i64 ad),.v (.int .u64 sm),.v (.int .u64 ng),.v (.int .u64 q0),.v (.int .u64 q1),.v (.int .u64 q2),.v (.int .u64 q3)],.agg [.v (.int .u64 a0),.v (.int .u64 a1),.v (.int .u64 a2),.v (.int .u64 a3)]],[]=>some fun Q=>reC [p0,p1,p2,p3,ad,sm,ng,q0,q1,q2,q3] [a0,a1,a2,a3] fun P a=>Q (eS (fR P a)) []
 | _,_=>none
theorem zRl(args:List SV)(h:List HO)(tr:(SV→List HO→Prop)→Prop)(Q:SV→List HO→Prop)(hc:gRe args h=some tr)(ht:tr Q):qI Try.prog 74 args h Q:=by
 unfold gRe at hc
 split at hc
 ·rename_i p0 p1 p2 p3 ad sm ng q0 q1 q2 q3 a0 a1 a2 a3
  simp only[sI] at hc
  subst hc
  obtain⟨P,a,hn,e1,ha,hq⟩:=ht.h
  simp only[List.cons.injEq,and_true] at e1
  obtain⟨rfl,rfl,rfl,rfl⟩:=e1
  cases hn
  ·obtain⟨l0,l1,l2,l3⟩:=qZ (fR 16513537 a) (by have:=qPh 16513537 a (by omega); omega)
   rw[eS,l0,l1,l2,l3] at hq
   exact zOf a ha Q hq
  ·obtain⟨l0,l1,l2,l3⟩:=qZ (fR 16521217 a) (by have:=qPh 16521217 a (by omega); omega)
   rw[eS,l0,l1,l2,l3] at hq
   exact zOi a ha Q hq
  ·have:=zFs 28948022309329048855892746252171976963363056481941560715954676764349967630337 32 11037532056220336127 10122100416058490895 15551789045973377255 8617542898466512152 679271340751763220 (by simp only[top]; omega) (by simp only[top]; omega) a ha Q hq
   rw[xE.1,xE.2.1,xE.2.2.1,xE.2.2.2] at this
   exact this
  ·have:=zFs 28948022309329048855892746252171976963363056481941647379679742748393362948097 32 10108024940646105087 18200867980676431887 7474641938123724515 9200329640471491984 679271340771891881 (by simp only[top]; omega) (by simp only[top]; omega) a ha Q hq
   rw[xF.1,xF.2.1,xF.2.2.1,xF.2.2.2] at this
   exact this
 ·cases hc
noncomputable def K20:Con Try.prog:=K19.add 74 gRe zRl
end Go.Proofs.Ytlmjdcbhpffanaa
/- Sums and what is below nought, in the fields. -/
namespace Go.Pl
open Go.Sx
structure qMw (ns ds es : List Int) (k : Nat → Nat → Nat → Prop) : Prop where
  h : ∃ P a b : Nat, qFo ns P ∧ ds = eI a ∧ es = eI b ∧ a < top ∧ b < top ∧ k P a b
theorem qBf{ns:List Int}{k:Nat→Nat→Nat→Prop}(P a b:Nat)(hn:qFo ns P)(ha:a<top)(hb:b<top)(h:k P a b):qMw ns (eI a) (eI b) k:=⟨⟨P,a,b,hn,rfl,rfl,ha,hb,h⟩⟩
noncomputable def fA(P a b:Nat):Nat:=yO ((a+b)%P)
theorem zLe(P a b:Nat):fA P a b=(a+b)%P:=qM _
noncomputable def fN(P a:Nat):Nat:=yO ((P-a%P)%P)
theorem zLf(P a:Nat):fN P a=(P-a%P)%P:=qM _
theorem qZi(p a:Nat)(hp:0<p):fR p a<p:=by rw[xX]; exact Nat.mod_lt _ hp
theorem qRr{P:Nat}(hP:2<P∧2*P<top)(a:Nat):fR P a<top∧2*fR P a<top:=by
 have:=qZi P a (by omega)
 omega
theorem zVr{P:Nat}(hP:2<P)(a b:Nat):fA P a b<P:=by rw[zLe]; exact Nat.mod_lt _ (by omega)
theorem zUo{P:Nat}(hP:2<P)(a:Nat):fN P a<P:=by rw[zLf]; exact Nat.mod_lt _ (by omega)
def fP(s:Int):Nat:=if s=0 then 16513537 else if s=1 then 16521217 else if s=2 then 28948022309329048855892746252171976963363056481941560715954676764349967630337 else if s=3 then 28948022309329048855892746252171976963363056481941647379679742748393362948097 else 0
noncomputable def fAd(s:Int)(a b:Nat):Nat:=if fP s=0 then 0 else fA (fP s) a b
noncomputable def fNg(s:Int)(a:Nat):Nat:=if fP s=0 then 0 else fN (fP s) a
theorem qVz{s:Int}(h0:¬ s=0)(h1:¬ s=1)(h2:¬ s=2)(h3:¬ s=3):fP s=0:=by rw[fP,if_neg h0,if_neg h1,if_neg h2,if_neg h3]
theorem qCh(i:Nat):qC 0 i=0:=by simp [qC,qM]
end Go.Pl
namespace Go.Proofs.Ytlmjdcbhpffanaa
open Go.Sx Go.Pl
set_option linter.unusedVariables false
set_option maxRecDepth 100000
theorem naS(p0 p1 p2 p3 ad sm ng q0 q1 q2 q3:Int)(a b:Nat)(K:List It→St→Prop)(R:SV→List HO→Prop):W (xwp Try.prog X K20 [] 60 (qO Try.f54 [] []) [] [.at []] ⟨qQ 0 [.agg [.v (.int .u64 p0),.v (.int .u64 p1),.v (.int .u64 p2),.v (.int .u64 p3),.v (.int .i64 ad),.v (.int .u64 sm),.v (.int .u64 ng),.v (.int .u64 q0),.v (.int .u64 q1),.v (.int .u64 q2),.v (.int .u64 q3)],eS a,eS b],[]⟩ K R)=W ((reC [p0,p1,p2,p3,ad,sm,ng,q0,q1,q2,q3] (eI a) fun(P a:Nat)=>(reC [p0,p1,p2,p3,ad,sm,ng,q0,q1,q2,q3] (eI b) fun(P_1 a_1:Nat)=>(c2C (eI (fR P a)) (eI (fR P_1 a_1)) fun(a b:Nat)=>(∀ M:Mem,0+4≤4)∧reC [p0,p1,p2,p3,ad,sm,ng,q0,q1,q2,q3] (eI (qOe a b)) fun(P a:Nat)=>(∀ M:Mem,0+4≤4)∧R ((eS (fR P a))) [])∧c2C (eI (fR P a)) (eI (fR P_1 a_1)) fun(a b:Nat)=>(∀ M:Mem,0+4≤4)∧reC [p0,p1,p2,p3,ad,sm,ng,q0,q1,q2,q3] (eI (qOe a b)) fun(P a:Nat)=>(∀ M:Mem,0+4≤4)∧R ((eS (fR P a))) [])∧reC [p0,p1,p2,p3,ad,sm,ng,q0,q1,q2,q3] (eI b) fun(P_1 a_1:Nat)=>c2C (eI (fR P a)) (eI (fR P_1 a_1)) fun(a b:Nat)=>(∀ M:Mem,0+4≤4)∧reC [p0,p1,p2,p3,ad,sm,ng,q0,q1,q2,q3] (eI (qOe a b)) fun(P a:Nat)=>(∀ M:Mem,0+4≤4)∧R ((eS (fR P a))) [])∧reC [p0,p1,p2,p3,ad,sm,ng,q0,q1,q2,q3] (eI a) fun(P a:Nat)=>reC [p0,p1,p2,p3,ad,sm,ng,q0,q1,q2,q3] (eI b) fun(P_1 a_1:Nat)=>c2C (eI (fR P a)) (eI (fR P_1 a_1)) fun(a b:Nat)=>(∀ M:Mem,0+4≤4)∧reC [p0,p1,p2,p3,ad,sm,ng,q0,q1,q2,q3] (eI (qOe a b)) fun(P a:Nat)=>(∀ M:Mem,0+4≤4)∧R ((eS (fR P a))) []):=by kernel_rfl
theorem nnS(p0 p1 p2 p3 ad sm ng q0 q1 q2 q3:Int)(a:Nat)(K:List It→St→Prop)(R:SV→List HO→Prop):W (xwp Try.prog X K20 [] 60 (qO Try.f131 [] []) [] [.at []] ⟨qQ 0 [.agg [.v (.int .u64 p0),.v (.int .u64 p1),.v (.int .u64 p2),.v (.int .u64 p3),.v (.int .i64 ad),.v (.int .u64 sm),.v (.int .u64 ng),.v (.int .u64 q0),.v (.int .u64 q1),.v (.int .u64 q2),.v (.int .u64 q3)],eS a],[]⟩ K R)=W ((reC [p0,p1,p2,p3,ad,sm,ng,q0,q1,q2,q3] (eI a) fun(P a:Nat)=>(c2C [p0,p1,p2,p3] (eI (fR P a)) fun(a b:Nat)=>(∀ M:Mem,0+4≤4)∧reC [p0,p1,p2,p3,ad,sm,ng,q0,q1,q2,q3] (eI (qGk a b)) fun(P a:Nat)=>(∀ M:Mem,0+4≤4)∧R ((eS (fR P a))) [])∧c2C [p0,p1,p2,p3] (eI (fR P a)) fun(a b:Nat)=>(∀ M:Mem,0+4≤4)∧reC [p0,p1,p2,p3,ad,sm,ng,q0,q1,q2,q3] (eI (qGk a b)) fun(P a:Nat)=>(∀ M:Mem,0+4≤4)∧R ((eS (fR P a))) [])∧reC [p0,p1,p2,p3,ad,sm,ng,q0,q1,q2,q3] (eI a) fun(P a:Nat)=>c2C [p0,p1,p2,p3] (eI (fR P a)) fun(a b:Nat)=>(∀ M:Mem,0+4≤4)∧reC [p0,p1,p2,p3,ad,sm,ng,q0,q1,q2,q3] (eI (qGk a b)) fun(P a:Nat)=>(∀ M:Mem,0+4≤4)∧R ((eS (fR P a))) []):=by kernel_rfl
theorem bNa:Try.f54.body.isSome=true:=by kernel_rfl
theorem nNa(p0 p1 p2 p3 ad sm ng q0 q1 q2 q3:Int)(a b:Nat):Nat.ble [SV.agg [.v (.int .u64 p0),.v (.int .u64 p1),.v (.int .u64 p2),.v (.int .u64 p3),.v (.int .i64 ad),.v (.int .u64 sm),.v (.int .u64 ng),.v (.int .u64 q0),.v (.int .u64 q1),.v (.int .u64 q2),.v (.int .u64 q3)],eS a,eS b].length Try.f54.ntmps=true:=by kernel_rfl
theorem zLj(P a b:Nat)(hP:2<P∧2*P<top):fR P (qOe (fR P a) (fR P b))=fA P a b∧qOe (fR P a) (fR P b)<top:=by
 have h1:=qPh P a (by omega)
 have h2:=qPh P b (by omega)
 refine⟨?_,by rw[qOe]; omega⟩
 rw[zLe,xX,qOe,xX,xX,← Nat.add_mod]
theorem zUu(p0 p1 p2 p3 ad sm ng q0 q1 q2 q3:Int)(P a b:Nat)(hn:qFo [p0,p1,p2,p3,ad,sm,ng,q0,q1,q2,q3] P)(ha:a<top)(hb:b<top)(Q:SV→List HO→Prop)(hq:Q (eS (fA P a b)) []):qI Try.prog 54 [.agg [.v (.int .u64 p0),.v (.int .u64 p1),.v (.int .u64 p2),.v (.int .u64 p3),.v (.int .i64 ad),.v (.int .u64 sm),.v (.int .u64 ng),.v (.int .u64 q0),.v (.int .u64 q1),.v (.int .u64 q2),.v (.int .u64 q3)],eS a,eS b] [] Q:=by
 have hP:=qRw hn
 have ta:=(qRr hP a).1
 have tb:=(qRr hP b).1
 obtain⟨e1,e2⟩:=zLj P a b hP
 refine qJ Try.func54 bNa ?_ ?_
 ·exact nNa p0 p1 p2 p3 ad sm ng q0 q1 q2 q3 a b
 refine qE hm 60 ((naS p0 p1 p2 p3 ad sm ng q0 q1 q2 q3 a b _ _).mpr ⟨?_⟩)
 rw[← e1] at hq
 have q:c2C (eI (fR P a)) (eI (fR P b)) fun(a b:Nat)=>(∀(M:Mem),0+4≤4)∧reC [p0,p1,p2,p3,ad,sm,ng,q0,q1,q2,q3] (eI (qOe a b)) fun(P a:Nat)=>(∀(M:Mem),0+4≤4)∧Q ((eS (fR P a))) [] :=
  wD _ _ ta tb ⟨fun _=>by omega,yV P _ hn e2 ⟨fun _=>by omega,hq⟩⟩
 exact And.intro (yV P a hn ha (And.intro (yV P b hn hb (And.intro q q)) (yV P b hn hb q))) (yV P a hn ha (yV P b hn hb q))
noncomputable def gNa:List SV→List HO→Option ((SV→List HO→Prop)→Prop)
 | [.agg [.v (.int .u64 p0),.v (.int .u64 p1),.v (.int .u64 p2),.v (.int .u64 p3),.v (.int .i64 ad),.v (.int .u64 sm),.v (.int .u64 ng),.v (.int .u64 q0),.v (.int .u64 q1),.v (.int .u64 q2),.v (.int .u64 q3)],.agg [.v (.int .u64 a0),.v (.int .u64 a1),.v (.int .u64 a2),.v (.int .u64 a3)],.agg [.v (.int .u64 b0),.v (.int .u64 b1),.v (.int .u64 b2),.v (.int .u64 b3)]],[]=>some fun Q=>qMw [p0,p1,p2,p3,ad,sm,ng,q0,q1,q2,q3] [a0,a1,a2,a3] [b0,b1,b2,b3] fun P a b=>Q (eS (fA P a b)) []
 | _,_=>none
theorem zOj(args:List SV)(h:List HO)(tr:(SV→List HO→Prop)→Prop)(Q:SV→List HO→Prop)(hc:gNa args h=some tr)(ht:tr Q):qI Try.prog 54 args h Q:=by
 unfold gNa at hc
 split at hc
 ·rename_i p0 p1 p2 p3 ad sm ng q0 q1 q2 q3 a0 a1 a2 a3 b0 b1 b2 b3
  simp only[sI] at hc
  subst hc
  obtain⟨P,a,b,hn,e1,e2,ha,hb,hq⟩:=ht.h
  simp only[List.cons.injEq,and_true] at e1 e2
  obtain⟨rfl,rfl,rfl,rfl⟩:=e1
  obtain⟨rfl,rfl,rfl,rfl⟩:=e2
  exact zUu p0 p1 p2 p3 ad sm ng q0 q1 q2 q3 P a b hn ha hb Q hq
 ·cases hc
theorem bNn:Try.f131.body.isSome=true:=by kernel_rfl
theorem nNn(p0 p1 p2 p3 ad sm ng q0 q1 q2 q3:Int)(a:Nat):Nat.ble [SV.agg [.v (.int .u64 p0),.v (.int .u64 p1),.v (.int .u64 p2),.v (.int .u64 p3),.v (.int .i64 ad),.v (.int .u64 sm),.v (.int .u64 ng),.v (.int .u64 q0),.v (.int .u64 q1),.v (.int .u64 q2),.v (.int .u64 q3)],eS a].length Try.f131.ntmps=true:=by kernel_rfl
theorem zHj(p0 p1 p2 p3 ad sm ng q0 q1 q2 q3:Int){P:Nat}(hn:qFo [p0,p1,p2,p3,ad,sm,ng,q0,q1,q2,q3] P):[p0,p1,p2,p3]=eI P:=by
 cases hn
 ·rw[eI,(qZ 16513537 (by omega)).1,(qZ 16513537 (by omega)).2.1,(qZ 16513537 (by omega)).2.2.1,(qZ 16513537 (by omega)).2.2.2]; rfl
 ·rw[eI,(qZ 16521217 (by omega)).1,(qZ 16521217 (by omega)).2.1,(qZ 16521217 (by omega)).2.2.1,(qZ 16521217 (by omega)).2.2.2]; rfl
 ·rw[eI,xE.1,xE.2.1,xE.2.2.1,xE.2.2.2]; rfl
 ·rw[eI,xF.1,xF.2.1,xF.2.2.1,xF.2.2.2]; rfl
theorem zKb(a b:Nat)(h:b≤a):eI (qGk a b)=eI (a-b):=by
 rw[eI,jP a b h 0 (by omega),jP a b h 1 (by omega),jP a b h 2 (by omega),jP a b h 3 (by omega)]
theorem zSq(p0 p1 p2 p3 ad sm ng q0 q1 q2 q3:Int)(P a:Nat)(hn:qFo [p0,p1,p2,p3,ad,sm,ng,q0,q1,q2,q3] P)(ha:a<top)(Q:SV→List HO→Prop)(hq:Q (eS (fN P a)) []):qI Try.prog 131 [.agg [.v (.int .u64 p0),.v (.int .u64 p1),.v (.int .u64 p2),.v (.int .u64 p3),.v (.int .i64 ad),.v (.int .u64 sm),.v (.int .u64 ng),.v (.int .u64 q0),.v (.int .u64 q1),.v (.int .u64 q2),.v (.int .u64 q3)],eS a] [] Q:=by
 have hP:=qRw hn
 have ta:=(qRr hP a).1
 have la:=qPh P a (by omega)
 have tp:P<top:=by omega
 refine qJ Try.func131 bNn ?_ ?_
 ·exact nNn p0 p1 p2 p3 ad sm ng q0 q1 q2 q3 a
 refine qE hm 60 ((nnS p0 p1 p2 p3 ad sm ng q0 q1 q2 q3 a _ _).mpr ⟨?_⟩)
 have e1:fR P (P-fR P a)=fN P a:=by rw[zLf,xX,xX]
 rw[← e1] at hq
 have q:c2C [p0,p1,p2,p3] (eI (fR P a)) fun(a b:Nat)=>(∀(M:Mem),0+4≤4)∧reC [p0,p1,p2,p3,ad,sm,ng,q0,q1,q2,q3] (eI (qGk a b)) fun(P a:Nat)=>(∀(M:Mem),0+4≤4)∧Q ((eS (fR P a))) []:=by
  rw[zHj p0 p1 p2 p3 ad sm ng q0 q1 q2 q3 hn]
  refine wD _ _ tp ta ⟨fun _=>by omega,?_⟩
  rw[zKb _ _ (by omega)]
  exact yV P _ hn (by omega) ⟨fun _=>by omega,hq⟩
 exact And.intro (yV P a hn ha (And.intro q q)) (yV P a hn ha q)
noncomputable def gNn:List SV→List HO→Option ((SV→List HO→Prop)→Prop)
 | [.agg [.v (.int .u64 p0),.v (.int .u64 p1),.v (.int .u64 p2),.v (.int .u64 p3),.v (.int .i64 ad),.v (.int .u64 sm),.v (.int .u64 ng),.v (.int .u64 q0),.v (.int .u64 q1),.v (.int .u64 q2),.v (.int .u64 q3)],.agg [.v (.int .u64 a0),.v (.int .u64 a1),.v (.int .u64 a2),.v (.int .u64 a3)]],[]=>some fun Q=>reC [p0,p1,p2,p3,ad,sm,ng,q0,q1,q2,q3] [a0,a1,a2,a3] fun P a=>Q (eS (fN P a)) []
 | _,_=>none
theorem zQr(args:List SV)(h:List HO)(tr:(SV→List HO→Prop)→Prop)(Q:SV→List HO→Prop)(hc:gNn args h=some tr)(ht:tr Q):qI Try.prog 131 args h Q:=by
 unfold gNn at hc
 split at hc
 ·rename_i p0 p1 p2 p3 ad sm ng q0 q1 q2 q3 a0 a1 a2 a3
  simp only[sI] at hc
  subst hc
  obtain⟨P,a,hn,e1,ha,hq⟩:=ht.h
  simp only[List.cons.injEq,and_true] at e1
  obtain⟨rfl,rfl,rfl,rfl⟩:=e1
  exact zSq p0 p1 p2 p3 ad sm ng q0 q1 q2 q3 P a hn ha Q hq
 ·cases hc
noncomputable def K22:Con Try.prog:=(K20.add 54 gNa zOj).add 131 gNn zQr
end Go.Proofs.Ytlmjdcbhpffanaa
/- The fields' sums, what is below nought, the moduli. -/
namespace Go.Pl
open Go.Sx
def fE(s:Int):Int:=if fP s=0 then 20 else 0
theorem qEy:eS 0=.agg [.v (.int .u64 0),.v (.int .u64 0),.v (.int .u64 0),.v (.int .u64 0)]:=by
 simp only[eS,qCh]; rfl
theorem qAe:eI 0=[0,0,0,0]:=by simp only[eI,qCh]; rfl
theorem qLo:0<top:=by simp only[top]; omega
end Go.Pl
namespace Go.Proofs.Ytlmjdcbhpffanaa
open Go.Sx Go.Pl
set_option linter.unusedVariables false
set_option maxRecDepth 100000
theorem faS(s:Int)(a b:Nat)(K:List It→St→Prop)(R:SV→List HO→Prop):W (xwp Try.prog X K22 [(53,[])] 60 (qO Try.f28 [] []) [] [.at []] ⟨qQ 0 [.v (.int .i64 s),eS a,eS b],[]⟩ K R)=W (bif s==(0:Int) then(∀ M:Mem,11≤11)∧(∀ M:Mem,11≤11)∧qMw [(16513537:Int),(0:Int),(0:Int),(0:Int),(9:Int),(16513537:Int),(0:Int),(0:Int),(0:Int),(0:Int),(0:Int)] (eI a) (eI b) fun(P a b:Nat)=>(∀ M:Mem,0+4≤4)∧R ((eS (fA P a b))) [] else bif s==(1:Int) then(∀ M:Mem,11≤11)∧(∀ M:Mem,11≤11)∧qMw [(16521217:Int),(0:Int),(0:Int),(0:Int),(11:Int),(16521217:Int),(0:Int),(0:Int),(0:Int),(0:Int),(0:Int)] (eI a) (eI b) fun(P a b:Nat)=>(∀ M:Mem,0+4≤4)∧R ((eS (fA P a b))) [] else bif s==(2:Int) then(∀ M:Mem,11≤11)∧(∀ M:Mem,11≤11)∧qMw [(11037532056220336129:Int),(2469829653914515739:Int),(0:Int),(4611686018427387904:Int),(32:Int),(0:Int),(11037532056220336127:Int),(10122100416058490895:Int),(15551789045973377255:Int),(8617542898466512152:Int),(679271340751763220:Int)] (eI a) (eI b) fun(P a b:Nat)=>(∀ M:Mem,0+4≤4)∧R ((eS (fA P a b))) [] else bif s==(3:Int) then(∀ M:Mem,11≤11)∧(∀ M:Mem,11≤11)∧qMw [(10108024940646105089:Int),(2469829653919213789:Int),(0:Int),(4611686018427387904:Int),(32:Int),(0:Int),(10108024940646105087:Int),(18200867980676431887:Int),(7474641938123724515:Int),(9200329640471491984:Int),(679271340771891881:Int)] (eI a) (eI b) fun(P a b:Nat)=>(∀ M:Mem,0+4≤4)∧R ((eS (fA P a b))) [] else(∀ M:Mem,11≤11)∧(∀ M:Mem,11≤11)∧(∀ M:Mem,4≤4)∧R (.agg [.v (qD 0),.v (qD 0),.v (qD 0),.v (qD 0)]) []):=by kernel_rfl
theorem fnS(s:Int)(a:Nat)(K:List It→St→Prop)(R:SV→List HO→Prop):W (xwp Try.prog X K22 [(53,[])] 60 (qO Try.f137 [] []) [] [.at []] ⟨qQ 0 [.v (.int .i64 s),eS a],[]⟩ K R)=W (bif s==(0:Int) then(∀ M:Mem,11≤11)∧(∀ M:Mem,11≤11)∧reC [(16513537:Int),(0:Int),(0:Int),(0:Int),(9:Int),(16513537:Int),(0:Int),(0:Int),(0:Int),(0:Int),(0:Int)] (eI a) fun(P a:Nat)=>(∀ M:Mem,0+4≤4)∧R ((eS (fN P a))) [] else bif s==(1:Int) then(∀ M:Mem,11≤11)∧(∀ M:Mem,11≤11)∧reC [(16521217:Int),(0:Int),(0:Int),(0:Int),(11:Int),(16521217:Int),(0:Int),(0:Int),(0:Int),(0:Int),(0:Int)] (eI a) fun(P a:Nat)=>(∀ M:Mem,0+4≤4)∧R ((eS (fN P a))) [] else bif s==(2:Int) then(∀ M:Mem,11≤11)∧(∀ M:Mem,11≤11)∧reC [(11037532056220336129:Int),(2469829653914515739:Int),(0:Int),(4611686018427387904:Int),(32:Int),(0:Int),(11037532056220336127:Int),(10122100416058490895:Int),(15551789045973377255:Int),(8617542898466512152:Int),(679271340751763220:Int)] (eI a) fun(P a:Nat)=>(∀ M:Mem,0+4≤4)∧R ((eS (fN P a))) [] else bif s==(3:Int) then(∀ M:Mem,11≤11)∧(∀ M:Mem,11≤11)∧reC [(10108024940646105089:Int),(2469829653919213789:Int),(0:Int),(4611686018427387904:Int),(32:Int),(0:Int),(10108024940646105087:Int),(18200867980676431887:Int),(7474641938123724515:Int),(9200329640471491984:Int),(679271340771891881:Int)] (eI a) fun(P a:Nat)=>(∀ M:Mem,0+4≤4)∧R ((eS (fN P a))) [] else(∀ M:Mem,11≤11)∧(∀ M:Mem,11≤11)∧(∀ M:Mem,4≤4)∧R (.agg [.v (qD 0),.v (qD 0),.v (qD 0),.v (qD 0)]) []):=by kernel_rfl
theorem zZt(s:Int)(K:List It→St→Prop)(R:SV→List HO→Prop):W (xwp Try.prog X K22 [(53,[])] 60 (qO Try.f27 [] []) [] [.at []] ⟨qQ 0 [.v (.int .i64 s)],[]⟩ K R)=W (bif s==(0:Int) then(∀ M:Mem,11≤11)∧(∀ M:Mem,11≤11)∧(∀ M:Mem,4≤4)∧R (.tup [.agg [.v (qD 16513537),.v (qD 0),.v (qD 0),.v (qD 0)],.v (qA 0)]) [] else bif s==(1:Int) then(∀ M:Mem,11≤11)∧(∀ M:Mem,11≤11)∧(∀ M:Mem,4≤4)∧R (.tup [.agg [.v (qD 16521217),.v (qD 0),.v (qD 0),.v (qD 0)],.v (qA 0)]) [] else bif s==(2:Int) then(∀ M:Mem,11≤11)∧(∀ M:Mem,11≤11)∧(∀ M:Mem,4≤4)∧R (.tup [.agg [.v (qD 11037532056220336129),.v (qD 2469829653914515739),.v (qD 0),.v (qD 4611686018427387904)],.v (qA 0)]) [] else bif s==(3:Int) then(∀ M:Mem,11≤11)∧(∀ M:Mem,11≤11)∧(∀ M:Mem,4≤4)∧R (.tup [.agg [.v (qD 10108024940646105089),.v (qD 2469829653919213789),.v (qD 0),.v (qD 4611686018427387904)],.v (qA 0)]) [] else(∀ M:Mem,11≤11)∧(∀ M:Mem,11≤11)∧(∀ M:Mem,4≤4)∧R (.tup [.agg [.v (qD 0),.v (qD 0),.v (qD 0),.v (qD 0)],.v (qA 20)]) []):=by kernel_rfl
theorem bFa:Try.f28.body.isSome=true:=by kernel_rfl
theorem nFa(s:Int)(a b:Nat):Nat.ble [SV.v (.int .i64 s),eS a,eS b].length Try.f28.ntmps=true:=by kernel_rfl
theorem zWa(s:Int)(a b:Nat)(ha:a<top)(hb:b<top)(Q:SV→List HO→Prop)(hq:Q (eS (fAd s a b)) []):qI Try.prog 28 [.v (.int .i64 s),eS a,eS b] [] Q:=by
 refine qJ Try.func28 bFa ?_ ?_
 ·exact nFa s a b
 refine qE hm 60 ((faS s a b _ _).mpr ⟨?_⟩)
 simp only[zF]
 refine qH (fun h0=>?_) (fun h0=>?_)
 ·subst h0
  exact aI (aI (qBf _ a b .p ha hb ⟨fun _=>by omega,hq⟩))
 refine qH (fun h1=>?_) (fun h1=>?_)
 ·subst h1
  exact aI (aI (qBf _ a b .q ha hb ⟨fun _=>by omega,hq⟩))
 refine qH (fun h2=>?_) (fun h2=>?_)
 ·subst h2
  exact aI (aI (qBf _ a b .r ha hb ⟨fun _=>by omega,hq⟩))
 refine qH (fun h3=>?_) (fun h3=>?_)
 ·subst h3
  exact aI (aI (qBf _ a b .t ha hb ⟨fun _=>by omega,hq⟩))
 refine aI (aI (And.intro (fun _=>by omega) ?_))
 rw[fAd,if_pos (qVz h0 h1 h2 h3),qEy] at hq
 exact hq
noncomputable def gFa:List SV→List HO→Option ((SV→List HO→Prop)→Prop)
 | [.v (.int .i64 s),.agg [.v (.int .u64 a0),.v (.int .u64 a1),.v (.int .u64 a2),.v (.int .u64 a3)],.agg [.v (.int .u64 b0),.v (.int .u64 b1),.v (.int .u64 b2),.v (.int .u64 b3)]],[]=>some fun Q=>c2C [a0,a1,a2,a3] [b0,b1,b2,b3] fun a b=>Q (eS (fAd s a b)) []
 | _,_=>none
theorem zLu(args:List SV)(h:List HO)(tr:(SV→List HO→Prop)→Prop)(Q:SV→List HO→Prop)(hc:gFa args h=some tr)(ht:tr Q):qI Try.prog 28 args h Q:=by
 unfold gFa at hc
 split at hc
 ·rename_i s a0 a1 a2 a3 b0 b1 b2 b3
  simp only[sI] at hc
  subst hc
  obtain⟨a,b,e1,e2,ha,hb,hq⟩:=ht.h
  simp only[List.cons.injEq,and_true] at e1 e2
  obtain⟨rfl,rfl,rfl,rfl⟩:=e1
  obtain⟨rfl,rfl,rfl,rfl⟩:=e2
  exact zWa s a b ha hb Q hq
 ·cases hc
theorem bFn:Try.f137.body.isSome=true:=by kernel_rfl
theorem nFn(s:Int)(a:Nat):Nat.ble [SV.v (.int .i64 s),eS a].length Try.f137.ntmps=true:=by kernel_rfl
theorem zSu(s:Int)(a:Nat)(ha:a<top)(Q:SV→List HO→Prop)(hq:Q (eS (fNg s a)) []):qI Try.prog 137 [.v (.int .i64 s),eS a] [] Q:=by
 refine qJ Try.func137 bFn ?_ ?_
 ·exact nFn s a
 refine qE hm 60 ((fnS s a _ _).mpr ⟨?_⟩)
 simp only[zF]
 refine qH (fun h0=>?_) (fun h0=>?_)
 ·subst h0
  exact aI (aI (yV _ a .p ha ⟨fun _=>by omega,hq⟩))
 refine qH (fun h1=>?_) (fun h1=>?_)
 ·subst h1
  exact aI (aI (yV _ a .q ha ⟨fun _=>by omega,hq⟩))
 refine qH (fun h2=>?_) (fun h2=>?_)
 ·subst h2
  exact aI (aI (yV _ a .r ha ⟨fun _=>by omega,hq⟩))
 refine qH (fun h3=>?_) (fun h3=>?_)
 ·subst h3
  exact aI (aI (yV _ a .t ha ⟨fun _=>by omega,hq⟩))
 refine aI (aI (And.intro (fun _=>by omega) ?_))
 rw[fNg,if_pos (qVz h0 h1 h2 h3),qEy] at hq
 exact hq
noncomputable def gFn:List SV→List HO→Option ((SV→List HO→Prop)→Prop)
 | [.v (.int .i64 s),.agg [.v (.int .u64 a0),.v (.int .u64 a1),.v (.int .u64 a2),.v (.int .u64 a3)]],[]=>some fun Q=>c1C [a0,a1,a2,a3] fun a=>Q (eS (fNg s a)) []
 | _,_=>none
theorem zNl(args:List SV)(h:List HO)(tr:(SV→List HO→Prop)→Prop)(Q:SV→List HO→Prop)(hc:gFn args h=some tr)(ht:tr Q):qI Try.prog 137 args h Q:=by
 unfold gFn at hc
 split at hc
 ·rename_i s a0 a1 a2 a3
  simp only[sI] at hc
  subst hc
  obtain⟨a,e1,ha,hq⟩:=ht.h
  simp only[List.cons.injEq,and_true] at e1
  obtain⟨rfl,rfl,rfl,rfl⟩:=e1
  exact zSu s a ha Q hq
 ·cases hc
theorem bFo:Try.f27.body.isSome=true:=by kernel_rfl
theorem nFo(s:Int):Nat.ble [SV.v (.int .i64 s)].length Try.f27.ntmps=true:=by kernel_rfl
theorem zVj(s:Int)(Q:SV→List HO→Prop)(hq:Q (.tup [eS (fP s),.v (.int .i64 (fE s))]) []):qI Try.prog 27 [.v (.int .i64 s)] [] Q:=by
 refine qJ Try.func27 bFo ?_ ?_
 ·exact nFo s
 refine qE hm 60 ((zZt s _ _).mpr ⟨?_⟩)
 simp only[zF]
 refine qH (fun h0=>?_) (fun h0=>?_)
 ·subst h0
  refine aI (aI (And.intro (fun _=>by omega) ?_))
  have e:fE 0=0:=rfl
  rw[show fP 0=16513537 from rfl,e,eS,(qZ 16513537 (by omega)).1,(qZ 16513537 (by omega)).2.1,(qZ 16513537 (by omega)).2.2.1,(qZ 16513537 (by omega)).2.2.2] at hq
  exact hq
 refine qH (fun h1=>?_) (fun h1=>?_)
 ·subst h1
  refine aI (aI (And.intro (fun _=>by omega) ?_))
  have e:fE 1=0:=rfl
  rw[show fP 1=16521217 from rfl,e,eS,(qZ 16521217 (by omega)).1,(qZ 16521217 (by omega)).2.1,(qZ 16521217 (by omega)).2.2.1,(qZ 16521217 (by omega)).2.2.2] at hq
  exact hq
 refine qH (fun h2=>?_) (fun h2=>?_)
 ·subst h2
  refine aI (aI (And.intro (fun _=>by omega) ?_))
  have e:fE 2=0:=rfl
  rw[show fP 2=28948022309329048855892746252171976963363056481941560715954676764349967630337 from rfl,e,eS,xE.1,xE.2.1,xE.2.2.1,xE.2.2.2] at hq
  exact hq
 refine qH (fun h3=>?_) (fun h3=>?_)
 ·subst h3
  refine aI (aI (And.intro (fun _=>by omega) ?_))
  have e:fE 3=0:=rfl
  rw[show fP 3=28948022309329048855892746252171976963363056481941647379679742748393362948097 from rfl,e,eS,xF.1,xF.2.1,xF.2.2.1,xF.2.2.2] at hq
  exact hq
 refine aI (aI (And.intro (fun _=>by omega) ?_))
 rw[fE,if_pos (qVz h0 h1 h2 h3),qVz h0 h1 h2 h3,qEy] at hq
 exact hq
noncomputable def gFo:List SV→List HO→Option ((SV→List HO→Prop)→Prop)
 | [.v (.int .i64 s)],[]=>some fun Q=>Q (.tup [eS (fP s),.v (.int .i64 (fE s))]) []
 | _,_=>none
theorem zRn(args:List SV)(h:List HO)(tr:(SV→List HO→Prop)→Prop)(Q:SV→List HO→Prop)(hc:gFo args h=some tr)(ht:tr Q):qI Try.prog 27 args h Q:=by
 unfold gFo at hc
 split at hc
 ·rename_i s
  simp only[sI] at hc
  subst hc
  exact zVj s Q ht
 ·cases hc
noncomputable def K23:Con Try.prog:=((K22.add 28 gFa zLu).add 137 gFn zNl).add 27 gFo zRn
end Go.Proofs.Ytlmjdcbhpffanaa
/- The product of two words. -/
namespace Go.Pl
open Go.Sx
noncomputable def jN(x y:Nat):Nat:=yO (x*y%18446744073709551616)
noncomputable def qEe(x y:Nat):Nat:=yO (x*y / 18446744073709551616)
theorem zNe(x y:Nat):x*y=jN x y+18446744073709551616*qEe x y∧jN x y<18446744073709551616:=by
 rw[jN,qEe,qM,qM]; omega
structure w2C (ds : List Int) (k : Nat → Nat → Prop) : Prop where
  h : ∃ x y : Nat, ds = [(x : Int), (y : Int)] ∧ x < 18446744073709551616 ∧ y < 18446744073709551616 ∧ k x y
theorem qTe{k:Nat→Nat→Prop}(x y:Nat)(hx:x<18446744073709551616)(hy:y<18446744073709551616)(h:k x y):w2C [(x:Int),(y:Int)] k:=⟨⟨x,y,rfl,hx,hy,h⟩⟩
theorem zUm(a:Nat)(ha:a<18446744073709551616):IntKind.wrap IntKind.u64 (↑(Int.toNat ((a:Int)%(18446744073709551616:Int))&&&(4294967295:Nat)):Int)=((a%4294967296:Nat):Int):=by
 have h1:Int.toNat ((a:Int)%(18446744073709551616:Int))=a:=by omega
 have e:a&&&4294967295=a%4294967296:=Nat.and_two_pow_sub_one_eq_mod a 32
 rw[h1,e,zJ]
 omega
theorem zSg(a b:Nat):(a:Int)*(b:Int)=((a*b:Nat):Int):=(Int.natCast_mul a b).symm
theorem zKp(a b:Nat):(a:Int)+(b:Int)=((a+b:Nat):Int):=(Int.natCast_add a b).symm
theorem zLg(a:Nat):IntKind.wrap .u64 (a:Int)=((a%18446744073709551616:Nat):Int):=by rw[zJ]; omega
theorem zLd(a:Nat)(ha:a<18446744073709551616):IntKind.wrap IntKind.u64 (((a%18446744073709551616&&&4294967295:Nat):Nat):Int)=((a%4294967296:Nat):Int):=by
 have e:a&&&4294967295=a%4294967296:=Nat.and_two_pow_sub_one_eq_mod a 32
 rw[Nat.mod_eq_of_lt ha,e,zJ]
 omega
end Go.Pl
namespace Go.Proofs.Ytlmjdcbhpffanaa
open Go.Sx Go.Pl
set_option linter.unusedVariables false
set_option maxRecDepth 100000
theorem zZq(x y:Nat)(K:List It→St→Prop)(R:SV→List HO→Prop):W (xwp Try.prog X K23 [] 60 (qO Try.f148 [] []) [] [.at []] ⟨qQ 0 [.v (.int .u64 (x:Nat)),.v (.int .u64 (y:Nat))],[]⟩ K R)=W ((∀ M:Mem,¬(32:Int)<(0:Int))∧(∀ M:Mem,¬(32:Int)<(0:Int))∧(∀ M:Mem,¬(32:Int)<(0:Int))∧(∀ M:Mem,¬(32:Int)<(0:Int))∧(∀ M:Mem,¬(32:Int)<(0:Int))∧R (.tup [.v (qD (IntKind.wrap IntKind.u64 (IntKind.wrap IntKind.u64 (IntKind.wrap IntKind.u64 (Int.fdiv (↑x:Int) (4294967296:Int)*Int.fdiv (↑y:Int) (4294967296:Int))+Int.fdiv (IntKind.wrap IntKind.u64 (IntKind.wrap IntKind.u64 (Int.fdiv (↑x:Int) (4294967296:Int)*IntKind.wrap IntKind.u64 (↑(y%18446744073709551616&&&4294967295):Int))+Int.fdiv (IntKind.wrap IntKind.u64 (IntKind.wrap IntKind.u64 (↑(x%18446744073709551616&&&4294967295):Int)*IntKind.wrap IntKind.u64 (↑(y%18446744073709551616&&&4294967295):Int))) (4294967296:Int))) (4294967296:Int))+Int.fdiv (IntKind.wrap IntKind.u64 (IntKind.wrap IntKind.u64 (↑(Int.toNat (IntKind.wrap IntKind.u64 (IntKind.wrap IntKind.u64 (Int.fdiv (↑x:Int) (4294967296:Int)*IntKind.wrap IntKind.u64 (↑(y%18446744073709551616&&&4294967295):Int))+Int.fdiv (IntKind.wrap IntKind.u64 (IntKind.wrap IntKind.u64 (↑(x%18446744073709551616&&&4294967295):Int)*IntKind.wrap IntKind.u64 (↑(y%18446744073709551616&&&4294967295):Int))) (4294967296:Int))%(18446744073709551616:Int))&&&4294967295):Int)+IntKind.wrap IntKind.u64 (IntKind.wrap IntKind.u64 (↑(x%18446744073709551616&&&4294967295):Int)*Int.fdiv (↑y:Int) (4294967296:Int)))) (4294967296:Int)))),.v (qD (IntKind.wrap IntKind.u64 ((↑x:Int)*(↑y:Int))))]) []):=by kernel_rfl
theorem bMl:Try.f148.body.isSome=true:=by kernel_rfl
theorem nMl(x y:Nat):Nat.ble [SV.v (.int .u64 (x:Nat)),.v (.int .u64 (y:Nat))].length Try.f148.ntmps=true:=by kernel_rfl
theorem zUz(x y:Nat)(hx:x<18446744073709551616)(hy:y<18446744073709551616)(Q:SV→List HO→Prop)(hq:Q (.tup [.v (.int .u64 (qEe x y:Nat)),.v (.int .u64 (jN x y:Nat))]) []):qI Try.prog 148 [.v (.int .u64 (x:Nat)),.v (.int .u64 (y:Nat))] [] Q:=by
 refine qJ Try.func148 bMl ?_ ?_
 ·exact nMl x y
 refine qE hm 60 ((zZq x y _ _).mpr ⟨?_⟩)
 refine aI (aI (aI (aI (And.intro (fun _=>by omega) ?_))))
 ·obtain⟨bd,bt,bw,hhi⟩:=Lib.mul64_hi x y hx hy
  have ba:=Lib.half_mul_le (a:=x / 4294967296) (b:=y / 4294967296) (by omega) (by omega)
  have bb:=Lib.half_mul_le (a:=x / 4294967296) (b:=y%4294967296) (by omega) (by omega)
  have bc:=Lib.half_mul_le (a:=x%4294967296) (b:=y / 4294967296) (by omega) (by omega)
  have ba':x / 4294967296*(y / 4294967296)<18446744073709551616:=by omega
  have bb':x / 4294967296*(y%4294967296)<18446744073709551616:=by omega
  have bc':x%4294967296*(y / 4294967296)<18446744073709551616:=by omega
  have bh1:x / 4294967296*(y / 4294967296)+(x / 4294967296*(y%4294967296)+x%4294967296*(y%4294967296) / 4294967296) / 4294967296<18446744073709551616:=by omega
  have bh:x / 4294967296*(y / 4294967296)+(x / 4294967296*(y%4294967296)+x%4294967296*(y%4294967296) / 4294967296) / 4294967296+((x / 4294967296*(y%4294967296)+x%4294967296*(y%4294967296) / 4294967296)%4294967296+x%4294967296*(y / 4294967296)) / 4294967296<18446744073709551616:=by omega
  simp only[zLd x hx,zLd y hy,zDx,zSg,zKp,qAb _ bd,qAb _ bb',qAb _ bt,zUm _ bt,qAb _ bc',qAb _ bw,qAb _ ba',qAb _ bh1,qAb _ bh,zLg (x*y)]
  rw[qEe,jN,qM,qM] at hq
  rw[hhi]
  exact hq
noncomputable def gMl:List SV→List HO→Option ((SV→List HO→Prop)→Prop)
 | [.v (.int .u64 x),.v (.int .u64 y)],[]=>some fun Q=>w2C [x,y] fun x y=>Q (.tup [.v (.int .u64 (qEe x y:Nat)),.v (.int .u64 (jN x y:Nat))]) []
 | _,_=>none
theorem zOx(args:List SV)(h:List HO)(tr:(SV→List HO→Prop)→Prop)(Q:SV→List HO→Prop)(hc:gMl args h=some tr)(ht:tr Q):qI Try.prog 148 args h Q:=by
 unfold gMl at hc
 split at hc
 ·rename_i x0 y0
  simp only[sI] at hc
  subst hc
  obtain⟨x,y,e1,hx,hy,hq⟩:=ht.h
  simp only[List.cons.injEq,and_true] at e1
  obtain⟨rfl,rfl⟩:=e1
  exact zUz x y hx hy Q hq
 ·cases hc
noncomputable def K24:Con Try.prog:=K23.add 148 gMl zOx
end Go.Proofs.Ytlmjdcbhpffanaa
/- A number of six words, and a product more. -/
namespace Go.Pl
open Go.Sx
def nv6(a b c d e f:Nat):Nat:=a+18446744073709551616*b+340282366920938463463374607431768211456*c+6277101735386680763835789423207666416102355444464034512896*d+115792089237316195423570985008687907853269984665640564039457584007913129639936*e+2135987035920910082395021706169552114602704522356652769947041607822219725780640550022962086936576*f
def qNt:Nat:=39402006196394479212279040100143613805079739270465446667948293404245721771497210611414266254884915640806627990306816
noncomputable abbrev eS6 (a:Nat):SV:=.agg [.v (.int .u64 (qC a 0:Nat)),.v (.int .u64 (qC a 1:Nat)),.v (.int .u64 (qC a 2:Nat)),.v (.int .u64 (qC a 3:Nat)),.v (.int .u64 (qC a 4:Nat)),.v (.int .u64 (qC a 5:Nat))]
noncomputable abbrev eI6 (a:Nat):List Int:=[(qC a 0:Int),(qC a 1:Int),(qC a 2:Int),(qC a 3:Int),(qC a 4:Int),(qC a 5:Int)]
theorem zEl(n:Nat):qC n 4=n / 115792089237316195423570985008687907853269984665640564039457584007913129639936%18446744073709551616:=by simp [qC,qM]
theorem zGu(n:Nat):qC n 5=n / 2135987035920910082395021706169552114602704522356652769947041607822219725780640550022962086936576%18446744073709551616:=by simp [qC,qM]
theorem zGn(n:Nat)(h:n<qNt):nv6 (qC n 0) (qC n 1) (qC n 2) (qC n 3) (qC n 4) (qC n 5)=n:=by
 simp only[nv6,qOr,qWr,qUg,qWd,zEl,zGu,qNt] at h ⊢; omega
theorem zDy{a b c d e f:Nat}(ha:a<18446744073709551616)(hb:b<18446744073709551616)(hc:c<18446744073709551616)(hd:d<18446744073709551616)(he:e<18446744073709551616)(hf:f<18446744073709551616):
  qC (nv6 a b c d e f) 0=a∧qC (nv6 a b c d e f) 1=b∧qC (nv6 a b c d e f) 2=c∧qC (nv6 a b c d e f) 3=d∧qC (nv6 a b c d e f) 4=e∧qC (nv6 a b c d e f) 5=f:=by
 simp only[nv6,qOr,qWr,qUg,qWd,zEl,zGu]; omega
theorem qRe(t a x c:Nat)(ht:t<18446744073709551616)(ha:a<18446744073709551616)(hx:x<18446744073709551616)(hc:c<18446744073709551616):∃ r d:Nat,jU t (jU (jN a x) c 0) 0=r ∧
  IntKind.wrap IntKind.u64 (IntKind.wrap IntKind.u64 ((↑(qEe a x):Int)+(↑(zR (jN a x) c 0):Int))+(↑(zR t (jU (jN a x) c 0) 0):Int))=(d:Int)∧t+a*x+c=r+18446744073709551616*d∧r<18446744073709551616∧d<18446744073709551616:=by
 have h1:=zNe a x
 have h2:a*x≤18446744073709551615*18446744073709551615:=Nat.mul_le_mul (by omega) (by omega)
 generalize a*x=y at *
 generalize jN a x=lo at *
 generalize qEe a x=hi at *
 have h3:=qLk lo c 0
 generalize jU lo c 0=l1 at *
 generalize zR lo c 0=k1 at *
 have h4:=qLk t l1 0
 generalize jU t l1 0=r at *
 generalize zR t l1 0=k2 at *
 refine⟨r,hi+k1+k2,rfl,?_,by omega,by omega,by omega⟩
 rw[zJ,zJ]
 omega
theorem zOe(t0 t1 t2 t3 t4 t5 a0 a1 a2 a3 x r0 r1 r2 r3 r4 c1 c2 c3 c4 c5:Nat)(h0:t0+a0*x+0=r0+18446744073709551616*c1)(h1:t1+a1*x+c1=r1+18446744073709551616*c2)(h2:t2+a2*x+c2=r2+18446744073709551616*c3)(h3:t3+a3*x+c3=r3+18446744073709551616*c4)(h4:t4+c4+0=r4+18446744073709551616*c5):
  nv6 t0 t1 t2 t3 t4 t5+nv a0 a1 a2 a3*x=nv6 r0 r1 r2 r3 r4 (t5+c5):=by
 have e:nv a0 a1 a2 a3*x=a0*x+18446744073709551616*(a1*x)+340282366920938463463374607431768211456*(a2*x)+6277101735386680763835789423207666416102355444464034512896*(a3*x):=by
  simp only[nv,Nat.add_mul,Nat.mul_assoc]
 rw[e]
 generalize a0*x=y0 at *
 generalize a1*x=y1 at *
 generalize a2*x=y2 at *
 generalize a3*x=y3 at *
 simp only[nv6]
 omega
noncomputable def acN(t a x:Nat):Nat:=yO (t+a*x)
theorem qMl(t a x:Nat):acN t a x=t+a*x:=qM _
structure acC (ts ds : List Int) (x : Int) (k : Nat → Nat → Nat → Prop) : Prop where
  h : ∃ t a y : Nat, ts = eI6 t ∧ ds = eI a ∧ x = (y : Int) ∧ a < top ∧ y < 18446744073709551616 ∧ t + a * y < qNt ∧ k t a y
theorem qDt{k:Nat→Nat→Nat→Prop}(t a y:Nat)(ha:a<top)(hy:y<18446744073709551616)(ht:t+a*y<qNt)(h:k t a y):acC (eI6 t) (eI a) (y:Int) k:=⟨⟨t,a,y,rfl,rfl,rfl,ha,hy,ht,h⟩⟩
end Go.Pl
namespace Go.Proofs.Ytlmjdcbhpffanaa
open Go.Sx Go.Pl
set_option linter.unusedVariables false
set_option maxRecDepth 100000
theorem acS(t0 t1 t2 t3 t4 t5 x:Nat)(a:Nat)(K:List It→St→Prop)(R:SV→List HO→Prop):W (xwp Try.prog X K24 [] 60 (qO Try.f147 [] [⟨[0,1,0,1,1],[2,3,4,6,7,13],[]⟩]) [] [.at []] ⟨qQ 0 [.agg [.v (.int .u64 (t0:Nat)),.v (.int .u64 (t1:Nat)),.v (.int .u64 (t2:Nat)),.v (.int .u64 (t3:Nat)),.v (.int .u64 (t4:Nat)),.v (.int .u64 (t5:Nat))],eS a,.v (.int .u64 (x:Nat))],[]⟩ K R)=W (K [.at [0,1,0,1,1],.blk 0,.at [1,1,1]] (St.mk [(2,.v (qD (↑x:Int))),(3,.p 0 0),(4,.p 1 0),(6,.p 2 0),(7,.v (qD 0)),(13,.v (qA 0))] [.cells [.v (qD (↑t0:Int)),.v (qD (↑t1:Int)),.v (qD (↑t2:Int)),.v (qD (↑t3:Int)),.v (qD (↑t4:Int)),.v (qD (↑t5:Int))] 235,.cells [.v (qD (↑(qC a 0):Int)),.v (qD (↑(qC a 1):Int)),.v (qD (↑(qC a 2):Int)),.v (qD (↑(qC a 3):Int))] 56,.cells [.v (qD 0),.v (qD 0),.v (qD 0),.v (qD 0),.v (qD 0),.v (qD 0)] 235])):=by kernel_rfl
theorem zYo(t0 t1 t2 t3 t4 t5 x c a M:Nat)(K:List It→St→Prop)(R:SV→List HO→Prop):W (xwp Try.prog X K24 [] 60 (qO Try.f147 [] [⟨[0,1,0,1,1],[2,3,4,6,7,13],[]⟩]) [] (.at [0,0,1,0,1,1]::.rnd [0,0,1,0,1,1] M::[.blk 0,.at [1,1,1]]) ⟨[(2,.v (.int .u64 (x:Nat))),(3,.p 0 0),(4,.p 1 0),(6,.p 2 0),(7,.v (.int .u64 (c:Nat))),(13,.v (.int .i64 0))],[.cells [.v (.int .u64 (t0:Nat)),.v (.int .u64 (t1:Nat)),.v (.int .u64 (t2:Nat)),.v (.int .u64 (t3:Nat)),.v (.int .u64 (t4:Nat)),.v (.int .u64 (t5:Nat))] 235,.cells [.v (.int .u64 (qC a 0:Nat)),.v (.int .u64 (qC a 1:Nat)),.v (.int .u64 (qC a 2:Nat)),.v (.int .u64 (qC a 3:Nat))] 56,.cells [.v (.int .u64 0),.v (.int .u64 0),.v (.int .u64 0),.v (.int .u64 0),.v (.int .u64 0),.v (.int .u64 0)] 235]⟩ K R)=W ((∀ M:Mem,(0:Int)≤(0:Int)∧(0:Int)<(4:Int))∧w2C [(↑(qC a 0):Int),(↑x:Int)] fun(x_1 y:Nat)=>(∀ M:Mem,(0:Int)≤(↑(jN x_1 y):Int)∧(0:Int)≤(↑c:Int)∧(0:Int)≤(0:Int)∧0≤1)∧(∀ M:Mem,(0:Int)≤(0:Int)∧(0:Int)<(6:Int))∧(∀ M:Mem,(0:Int)≤(↑t0:Int)∧(0:Int)≤(↑(jU (jN x_1 y) c 0):Int)∧(0:Int)≤(0:Int)∧0≤1)∧(∀ M:Mem,(0:Int)≤(0:Int)∧(0:Int)<(6:Int))∧(∀ M:Mem,0+1≤6)∧K [.rnd [0,0,1,0,1,1] M,.blk 0,.at [1,1,1]] (St.mk [(2,.v (qD (↑x:Int))),(3,.p 0 0),(4,.p 1 0),(6,.p 2 0),(7,.v (qD (IntKind.wrap IntKind.u64 (IntKind.wrap IntKind.u64 ((↑(qEe x_1 y):Int)+(↑(zR (jN x_1 y) c 0):Int))+(↑(zR t0 (jU (jN x_1 y) c 0) 0):Int))))),(13,.v (qA 1))] [.cells [.v (qD (↑(jU t0 (jU (jN x_1 y) c 0) 0):Int)),.v (qD (↑t1:Int)),.v (qD (↑t2:Int)),.v (qD (↑t3:Int)),.v (qD (↑t4:Int)),.v (qD (↑t5:Int))] 235,.cells [.v (qD (↑(qC a 0):Int)),.v (qD (↑(qC a 1):Int)),.v (qD (↑(qC a 2):Int)),.v (qD (↑(qC a 3):Int))] 56,.cells [.v (qD 0),.v (qD 0),.v (qD 0),.v (qD 0),.v (qD 0),.v (qD 0)] 235])):=by kernel_rfl
theorem zZa(t0 t1 t2 t3 t4 t5 x c a M:Nat)(K:List It→St→Prop)(R:SV→List HO→Prop):W (xwp Try.prog X K24 [] 60 (qO Try.f147 [] [⟨[0,1,0,1,1],[2,3,4,6,7,13],[]⟩]) [] (.at [0,0,1,0,1,1]::.rnd [0,0,1,0,1,1] M::[.blk 0,.at [1,1,1]]) ⟨[(2,.v (.int .u64 (x:Nat))),(3,.p 0 0),(4,.p 1 0),(6,.p 2 0),(7,.v (.int .u64 (c:Nat))),(13,.v (.int .i64 1))],[.cells [.v (.int .u64 (t0:Nat)),.v (.int .u64 (t1:Nat)),.v (.int .u64 (t2:Nat)),.v (.int .u64 (t3:Nat)),.v (.int .u64 (t4:Nat)),.v (.int .u64 (t5:Nat))] 235,.cells [.v (.int .u64 (qC a 0:Nat)),.v (.int .u64 (qC a 1:Nat)),.v (.int .u64 (qC a 2:Nat)),.v (.int .u64 (qC a 3:Nat))] 56,.cells [.v (.int .u64 0),.v (.int .u64 0),.v (.int .u64 0),.v (.int .u64 0),.v (.int .u64 0),.v (.int .u64 0)] 235]⟩ K R)=W ((∀ M:Mem,(0:Int)≤(1:Int)∧(1:Int)<(4:Int))∧w2C [(↑(qC a 1):Int),(↑x:Int)] fun(x_1 y:Nat)=>(∀ M:Mem,(0:Int)≤(↑(jN x_1 y):Int)∧(0:Int)≤(↑c:Int)∧(0:Int)≤(0:Int)∧0≤1)∧(∀ M:Mem,(0:Int)≤(1:Int)∧(1:Int)<(6:Int))∧(∀ M:Mem,(0:Int)≤(↑t1:Int)∧(0:Int)≤(↑(jU (jN x_1 y) c 0):Int)∧(0:Int)≤(0:Int)∧0≤1)∧(∀ M:Mem,(0:Int)≤(1:Int)∧(1:Int)<(6:Int))∧(∀ M:Mem,1+1≤6)∧K [.rnd [0,0,1,0,1,1] M,.blk 0,.at [1,1,1]] (St.mk [(2,.v (qD (↑x:Int))),(3,.p 0 0),(4,.p 1 0),(6,.p 2 0),(7,.v (qD (IntKind.wrap IntKind.u64 (IntKind.wrap IntKind.u64 ((↑(qEe x_1 y):Int)+(↑(zR (jN x_1 y) c 0):Int))+(↑(zR t1 (jU (jN x_1 y) c 0) 0):Int))))),(13,.v (qA 2))] [.cells [.v (qD (↑t0:Int)),.v (qD (↑(jU t1 (jU (jN x_1 y) c 0) 0):Int)),.v (qD (↑t2:Int)),.v (qD (↑t3:Int)),.v (qD (↑t4:Int)),.v (qD (↑t5:Int))] 235,.cells [.v (qD (↑(qC a 0):Int)),.v (qD (↑(qC a 1):Int)),.v (qD (↑(qC a 2):Int)),.v (qD (↑(qC a 3):Int))] 56,.cells [.v (qD 0),.v (qD 0),.v (qD 0),.v (qD 0),.v (qD 0),.v (qD 0)] 235])):=by kernel_rfl
theorem jBj(t0 t1 t2 t3 t4 t5 x c a M:Nat)(K:List It→St→Prop)(R:SV→List HO→Prop):W (xwp Try.prog X K24 [] 60 (qO Try.f147 [] [⟨[0,1,0,1,1],[2,3,4,6,7,13],[]⟩]) [] (.at [0,0,1,0,1,1]::.rnd [0,0,1,0,1,1] M::[.blk 0,.at [1,1,1]]) ⟨[(2,.v (.int .u64 (x:Nat))),(3,.p 0 0),(4,.p 1 0),(6,.p 2 0),(7,.v (.int .u64 (c:Nat))),(13,.v (.int .i64 2))],[.cells [.v (.int .u64 (t0:Nat)),.v (.int .u64 (t1:Nat)),.v (.int .u64 (t2:Nat)),.v (.int .u64 (t3:Nat)),.v (.int .u64 (t4:Nat)),.v (.int .u64 (t5:Nat))] 235,.cells [.v (.int .u64 (qC a 0:Nat)),.v (.int .u64 (qC a 1:Nat)),.v (.int .u64 (qC a 2:Nat)),.v (.int .u64 (qC a 3:Nat))] 56,.cells [.v (.int .u64 0),.v (.int .u64 0),.v (.int .u64 0),.v (.int .u64 0),.v (.int .u64 0),.v (.int .u64 0)] 235]⟩ K R)=W ((∀ M:Mem,(0:Int)≤(2:Int)∧(2:Int)<(4:Int))∧w2C [(↑(qC a 2):Int),(↑x:Int)] fun(x_1 y:Nat)=>(∀ M:Mem,(0:Int)≤(↑(jN x_1 y):Int)∧(0:Int)≤(↑c:Int)∧(0:Int)≤(0:Int)∧0≤1)∧(∀ M:Mem,(0:Int)≤(2:Int)∧(2:Int)<(6:Int))∧(∀ M:Mem,(0:Int)≤(↑t2:Int)∧(0:Int)≤(↑(jU (jN x_1 y) c 0):Int)∧(0:Int)≤(0:Int)∧0≤1)∧(∀ M:Mem,(0:Int)≤(2:Int)∧(2:Int)<(6:Int))∧(∀ M:Mem,2+1≤6)∧K [.rnd [0,0,1,0,1,1] M,.blk 0,.at [1,1,1]] (St.mk [(2,.v (qD (↑x:Int))),(3,.p 0 0),(4,.p 1 0),(6,.p 2 0),(7,.v (qD (IntKind.wrap IntKind.u64 (IntKind.wrap IntKind.u64 ((↑(qEe x_1 y):Int)+(↑(zR (jN x_1 y) c 0):Int))+(↑(zR t2 (jU (jN x_1 y) c 0) 0):Int))))),(13,.v (qA 3))] [.cells [.v (qD (↑t0:Int)),.v (qD (↑t1:Int)),.v (qD (↑(jU t2 (jU (jN x_1 y) c 0) 0):Int)),.v (qD (↑t3:Int)),.v (qD (↑t4:Int)),.v (qD (↑t5:Int))] 235,.cells [.v (qD (↑(qC a 0):Int)),.v (qD (↑(qC a 1):Int)),.v (qD (↑(qC a 2):Int)),.v (qD (↑(qC a 3):Int))] 56,.cells [.v (qD 0),.v (qD 0),.v (qD 0),.v (qD 0),.v (qD 0),.v (qD 0)] 235])):=by kernel_rfl
theorem zWs(t0 t1 t2 t3 t4 t5 x c a M:Nat)(K:List It→St→Prop)(R:SV→List HO→Prop):W (xwp Try.prog X K24 [] 60 (qO Try.f147 [] [⟨[0,1,0,1,1],[2,3,4,6,7,13],[]⟩]) [] (.at [0,0,1,0,1,1]::.rnd [0,0,1,0,1,1] M::[.blk 0,.at [1,1,1]]) ⟨[(2,.v (.int .u64 (x:Nat))),(3,.p 0 0),(4,.p 1 0),(6,.p 2 0),(7,.v (.int .u64 (c:Nat))),(13,.v (.int .i64 3))],[.cells [.v (.int .u64 (t0:Nat)),.v (.int .u64 (t1:Nat)),.v (.int .u64 (t2:Nat)),.v (.int .u64 (t3:Nat)),.v (.int .u64 (t4:Nat)),.v (.int .u64 (t5:Nat))] 235,.cells [.v (.int .u64 (qC a 0:Nat)),.v (.int .u64 (qC a 1:Nat)),.v (.int .u64 (qC a 2:Nat)),.v (.int .u64 (qC a 3:Nat))] 56,.cells [.v (.int .u64 0),.v (.int .u64 0),.v (.int .u64 0),.v (.int .u64 0),.v (.int .u64 0),.v (.int .u64 0)] 235]⟩ K R)=W ((∀ M:Mem,(0:Int)≤(3:Int)∧(3:Int)<(4:Int))∧w2C [(↑(qC a 3):Int),(↑x:Int)] fun(x_1 y:Nat)=>(∀ M:Mem,(0:Int)≤(↑(jN x_1 y):Int)∧(0:Int)≤(↑c:Int)∧(0:Int)≤(0:Int)∧0≤1)∧(∀ M:Mem,(0:Int)≤(3:Int)∧(3:Int)<(6:Int))∧(∀ M:Mem,(0:Int)≤(↑t3:Int)∧(0:Int)≤(↑(jU (jN x_1 y) c 0):Int)∧(0:Int)≤(0:Int)∧0≤1)∧(∀ M:Mem,(0:Int)≤(3:Int)∧(3:Int)<(6:Int))∧(∀ M:Mem,3+1≤6)∧K [.rnd [0,0,1,0,1,1] M,.blk 0,.at [1,1,1]] (St.mk [(2,.v (qD (↑x:Int))),(3,.p 0 0),(4,.p 1 0),(6,.p 2 0),(7,.v (qD (IntKind.wrap IntKind.u64 (IntKind.wrap IntKind.u64 ((↑(qEe x_1 y):Int)+(↑(zR (jN x_1 y) c 0):Int))+(↑(zR t3 (jU (jN x_1 y) c 0) 0):Int))))),(13,.v (qA 4))] [.cells [.v (qD (↑t0:Int)),.v (qD (↑t1:Int)),.v (qD (↑t2:Int)),.v (qD (↑(jU t3 (jU (jN x_1 y) c 0) 0):Int)),.v (qD (↑t4:Int)),.v (qD (↑t5:Int))] 235,.cells [.v (qD (↑(qC a 0):Int)),.v (qD (↑(qC a 1):Int)),.v (qD (↑(qC a 2):Int)),.v (qD (↑(qC a 3):Int))] 56,.cells [.v (qD 0),.v (qD 0),.v (qD 0),.v (qD 0),.v (qD 0),.v (qD 0)] 235])):=by kernel_rfl
theorem zZz(t0 t1 t2 t3 t4 t5 x c a M:Nat)(K:List It→St→Prop)(R:SV→List HO→Prop):W (xwp Try.prog X K24 [] 60 (qO Try.f147 [] [⟨[0,1,0,1,1],[2,3,4,6,7,13],[]⟩]) [] (.at [0,0,1,0,1,1]::.rnd [0,0,1,0,1,1] M::[.blk 0,.at [1,1,1]]) ⟨[(2,.v (.int .u64 (x:Nat))),(3,.p 0 0),(4,.p 1 0),(6,.p 2 0),(7,.v (.int .u64 (c:Nat))),(13,.v (.int .i64 4))],[.cells [.v (.int .u64 (t0:Nat)),.v (.int .u64 (t1:Nat)),.v (.int .u64 (t2:Nat)),.v (.int .u64 (t3:Nat)),.v (.int .u64 (t4:Nat)),.v (.int .u64 (t5:Nat))] 235,.cells [.v (.int .u64 (qC a 0:Nat)),.v (.int .u64 (qC a 1:Nat)),.v (.int .u64 (qC a 2:Nat)),.v (.int .u64 (qC a 3:Nat))] 56,.cells [.v (.int .u64 0),.v (.int .u64 0),.v (.int .u64 0),.v (.int .u64 0),.v (.int .u64 0),.v (.int .u64 0)] 235]⟩ K R)=W ((∀ M:Mem,(0:Int)≤(4:Int)∧(4:Int)<(6:Int))∧(∀ M:Mem,(0:Int)≤(↑t4:Int)∧(0:Int)≤(↑c:Int)∧(0:Int)≤(0:Int)∧0≤1)∧(∀ M:Mem,(0:Int)≤(4:Int)∧(4:Int)<(6:Int))∧(∀ M:Mem,4+1≤6)∧(∀ M:Mem,(0:Int)≤(5:Int)∧(5:Int)<(6:Int))∧(∀ M:Mem,(0:Int)≤(5:Int)∧(5:Int)<(6:Int))∧(∀ M:Mem,5+1≤6)∧(∀ M:Mem,0+6≤6)∧R (.agg [.v (qD (↑t0:Int)),.v (qD (↑t1:Int)),.v (qD (↑t2:Int)),.v (qD (↑t3:Int)),.v (qD (↑(jU t4 c 0):Int)),.v (qD (IntKind.wrap IntKind.u64 ((↑t5:Int)+(↑(zR t4 c 0):Int))))]) []):=by kernel_rfl
theorem bAc:Try.f147.body.isSome=true:=by kernel_rfl
theorem nAc(t a x:Nat):Nat.ble [eS6 t,eS a,.v (.int .u64 (x:Nat))].length Try.f147.ntmps=true:=by kernel_rfl
theorem ac4(r0 r1 r2 r3 t4 t5 x c4 a:Nat)(h4:t4<18446744073709551616)(h5:t5+zR t4 c4 0<18446744073709551616)(hc:c4<18446744073709551616)(Q:SV→List HO→Prop)(hq:Q (.agg [.v (.int .u64 (r0:Nat)),.v (.int .u64 (r1:Nat)),.v (.int .u64 (r2:Nat)),.v (.int .u64 (r3:Nat)),.v (.int .u64 (jU t4 c4 0:Nat)),.v (.int .u64 (t5+zR t4 c4 0:Nat))]) []):
  FOk Try.prog Try.f147 Q (.rnd [0,0,1,0,1,1] 1::[.blk 0,.at [1,1,1]]) ⟨[(2,.v (.int .u64 (x:Nat))),(3,.p 0 0),(4,.p 1 0),(6,.p 2 0),(7,.v (.int .u64 (c4:Nat))),(13,.v (.int .i64 4))],[.cells [.v (.int .u64 (r0:Nat)),.v (.int .u64 (r1:Nat)),.v (.int .u64 (r2:Nat)),.v (.int .u64 (r3:Nat)),.v (.int .u64 (t4:Nat)),.v (.int .u64 (t5:Nat))] 235,.cells [.v (.int .u64 (qC a 0:Nat)),.v (.int .u64 (qC a 1:Nat)),.v (.int .u64 (qC a 2:Nat)),.v (.int .u64 (qC a 3:Nat))] 56,.cells [.v (.int .u64 0),.v (.int .u64 0),.v (.int .u64 0),.v (.int .u64 0),.v (.int .u64 0),.v (.int .u64 0)] 235]⟩:=by
 refine FOk.rnd (qE hm 60 ((zZz r0 r1 r2 r3 t4 t5 x c4 a 0 _ _).mpr ⟨?_⟩))
 simp only[forall_const]
 rw[zKp,qAb _ h5]
 repeat' (first | refine And.intro ?_ ?_)
 all_goals first
  | omega
  | exact hq
theorem ac3(r0 r1 r2 t3 t4 t5 x c3 a:Nat)(h3:t3<18446744073709551616)(h4:t4<18446744073709551616)(hx:x<18446744073709551616)(hc:c3<18446744073709551616)(Q:SV→List HO→Prop)(hq:∀ r3 c4:Nat,t3+qC a 3*x+c3=r3+18446744073709551616*c4→r3<18446744073709551616→c4<18446744073709551616→t5+zR t4 c4 0<18446744073709551616∧Q (.agg [.v (.int .u64 (r0:Nat)),.v (.int .u64 (r1:Nat)),.v (.int .u64 (r2:Nat)),.v (.int .u64 (r3:Nat)),.v (.int .u64 (jU t4 c4 0:Nat)),.v (.int .u64 (t5+zR t4 c4 0:Nat))]) []):
  FOk Try.prog Try.f147 Q (.rnd [0,0,1,0,1,1] 2::[.blk 0,.at [1,1,1]]) ⟨[(2,.v (.int .u64 (x:Nat))),(3,.p 0 0),(4,.p 1 0),(6,.p 2 0),(7,.v (.int .u64 (c3:Nat))),(13,.v (.int .i64 3))],[.cells [.v (.int .u64 (r0:Nat)),.v (.int .u64 (r1:Nat)),.v (.int .u64 (r2:Nat)),.v (.int .u64 (t3:Nat)),.v (.int .u64 (t4:Nat)),.v (.int .u64 (t5:Nat))] 235,.cells [.v (.int .u64 (qC a 0:Nat)),.v (.int .u64 (qC a 1:Nat)),.v (.int .u64 (qC a 2:Nat)),.v (.int .u64 (qC a 3:Nat))] 56,.cells [.v (.int .u64 0),.v (.int .u64 0),.v (.int .u64 0),.v (.int .u64 0),.v (.int .u64 0),.v (.int .u64 0)] 235]⟩:=by
 refine FOk.rnd (qE hm 60 ((zWs r0 r1 r2 t3 t4 t5 x c3 a 1 _ _).mpr ⟨?_⟩))
 refine aI (qTe _ x (qV a 3) hx ?_)
 obtain⟨r3,c4,e1,e2,e3,e4,e5⟩:=qRe t3 (qC a 3) x c3 h3 (qV a 3) hx hc
 rw[e1,e2]
 refine aI (aI (aI (aI (And.intro (fun _=>by omega) ?_))))
 obtain⟨q1,q2⟩:=hq r3 c4 e3 e4 e5
 exact ac4 r0 r1 r2 r3 t4 t5 x c4 a h4 q1 e5 Q q2
theorem ac2(r0 r1 t2 t3 t4 t5 x c2 a:Nat)(h2:t2<18446744073709551616)(h3:t3<18446744073709551616)(h4:t4<18446744073709551616)(hx:x<18446744073709551616)(hc:c2<18446744073709551616)(Q:SV→List HO→Prop)(hq:∀ r2 r3 c3 c4:Nat,t2+qC a 2*x+c2=r2+18446744073709551616*c3→r2<18446744073709551616→t3+qC a 3*x+c3=r3+18446744073709551616*c4→r3<18446744073709551616→c4<18446744073709551616→t5+zR t4 c4 0<18446744073709551616∧Q (.agg [.v (.int .u64 (r0:Nat)),.v (.int .u64 (r1:Nat)),.v (.int .u64 (r2:Nat)),.v (.int .u64 (r3:Nat)),.v (.int .u64 (jU t4 c4 0:Nat)),.v (.int .u64 (t5+zR t4 c4 0:Nat))]) []):
  FOk Try.prog Try.f147 Q (.rnd [0,0,1,0,1,1] 3::[.blk 0,.at [1,1,1]]) ⟨[(2,.v (.int .u64 (x:Nat))),(3,.p 0 0),(4,.p 1 0),(6,.p 2 0),(7,.v (.int .u64 (c2:Nat))),(13,.v (.int .i64 2))],[.cells [.v (.int .u64 (r0:Nat)),.v (.int .u64 (r1:Nat)),.v (.int .u64 (t2:Nat)),.v (.int .u64 (t3:Nat)),.v (.int .u64 (t4:Nat)),.v (.int .u64 (t5:Nat))] 235,.cells [.v (.int .u64 (qC a 0:Nat)),.v (.int .u64 (qC a 1:Nat)),.v (.int .u64 (qC a 2:Nat)),.v (.int .u64 (qC a 3:Nat))] 56,.cells [.v (.int .u64 0),.v (.int .u64 0),.v (.int .u64 0),.v (.int .u64 0),.v (.int .u64 0),.v (.int .u64 0)] 235]⟩:=by
 refine FOk.rnd (qE hm 60 ((jBj r0 r1 t2 t3 t4 t5 x c2 a 2 _ _).mpr ⟨?_⟩))
 refine aI (qTe _ x (qV a 2) hx ?_)
 obtain⟨r2,c3,e1,e2,e3,e4,e5⟩:=qRe t2 (qC a 2) x c2 h2 (qV a 2) hx hc
 rw[e1,e2]
 refine aI (aI (aI (aI (And.intro (fun _=>by omega) ?_))))
 refine ac3 r0 r1 r2 t3 t4 t5 x c3 a h3 h4 hx e5 Q ?_
 intro r3 c4 k3 l3 l
 exact hq r2 r3 c3 c4 e3 e4 k3 l3 l
theorem ac1(r0 t1 t2 t3 t4 t5 x c1 a:Nat)(h1:t1<18446744073709551616)(h2:t2<18446744073709551616)(h3:t3<18446744073709551616)(h4:t4<18446744073709551616)(hx:x<18446744073709551616)(hc:c1<18446744073709551616)(Q:SV→List HO→Prop)(hq:∀ r1 r2 r3 c2 c3 c4:Nat,t1+qC a 1*x+c1=r1+18446744073709551616*c2→r1<18446744073709551616→t2+qC a 2*x+c2=r2+18446744073709551616*c3→r2<18446744073709551616→t3+qC a 3*x+c3=r3+18446744073709551616*c4→r3<18446744073709551616→c4<18446744073709551616→t5+zR t4 c4 0<18446744073709551616∧Q (.agg [.v (.int .u64 (r0:Nat)),.v (.int .u64 (r1:Nat)),.v (.int .u64 (r2:Nat)),.v (.int .u64 (r3:Nat)),.v (.int .u64 (jU t4 c4 0:Nat)),.v (.int .u64 (t5+zR t4 c4 0:Nat))]) []):
  FOk Try.prog Try.f147 Q (.rnd [0,0,1,0,1,1] 4::[.blk 0,.at [1,1,1]]) ⟨[(2,.v (.int .u64 (x:Nat))),(3,.p 0 0),(4,.p 1 0),(6,.p 2 0),(7,.v (.int .u64 (c1:Nat))),(13,.v (.int .i64 1))],[.cells [.v (.int .u64 (r0:Nat)),.v (.int .u64 (t1:Nat)),.v (.int .u64 (t2:Nat)),.v (.int .u64 (t3:Nat)),.v (.int .u64 (t4:Nat)),.v (.int .u64 (t5:Nat))] 235,.cells [.v (.int .u64 (qC a 0:Nat)),.v (.int .u64 (qC a 1:Nat)),.v (.int .u64 (qC a 2:Nat)),.v (.int .u64 (qC a 3:Nat))] 56,.cells [.v (.int .u64 0),.v (.int .u64 0),.v (.int .u64 0),.v (.int .u64 0),.v (.int .u64 0),.v (.int .u64 0)] 235]⟩:=by
 refine FOk.rnd (qE hm 60 ((zZa r0 t1 t2 t3 t4 t5 x c1 a 3 _ _).mpr ⟨?_⟩))
 refine aI (qTe _ x (qV a 1) hx ?_)
 obtain⟨r1,c2,e1,e2,e3,e4,e5⟩:=qRe t1 (qC a 1) x c1 h1 (qV a 1) hx hc
 rw[e1,e2]
 refine aI (aI (aI (aI (And.intro (fun _=>by omega) ?_))))
 refine ac2 r0 r1 t2 t3 t4 t5 x c2 a h2 h3 h4 hx e5 Q ?_
 intro r2 r3 c3 c4 k2 l2 k3 l3 l
 exact hq r1 r2 r3 c2 c3 c4 e3 e4 k2 l2 k3 l3 l
theorem ac0(t0 t1 t2 t3 t4 t5 x c0 a:Nat)(h0:t0<18446744073709551616)(h1:t1<18446744073709551616)(h2:t2<18446744073709551616)(h3:t3<18446744073709551616)(h4:t4<18446744073709551616)(hx:x<18446744073709551616)(hc:c0<18446744073709551616)(Q:SV→List HO→Prop)(hq:∀ r0 r1 r2 r3 c1 c2 c3 c4:Nat,t0+qC a 0*x+c0=r0+18446744073709551616*c1→r0<18446744073709551616→t1+qC a 1*x+c1=r1+18446744073709551616*c2→r1<18446744073709551616→t2+qC a 2*x+c2=r2+18446744073709551616*c3→r2<18446744073709551616→t3+qC a 3*x+c3=r3+18446744073709551616*c4→r3<18446744073709551616→c4<18446744073709551616→t5+zR t4 c4 0<18446744073709551616∧Q (.agg [.v (.int .u64 (r0:Nat)),.v (.int .u64 (r1:Nat)),.v (.int .u64 (r2:Nat)),.v (.int .u64 (r3:Nat)),.v (.int .u64 (jU t4 c4 0:Nat)),.v (.int .u64 (t5+zR t4 c4 0:Nat))]) []):
  FOk Try.prog Try.f147 Q (.rnd [0,0,1,0,1,1] 5::[.blk 0,.at [1,1,1]]) ⟨[(2,.v (.int .u64 (x:Nat))),(3,.p 0 0),(4,.p 1 0),(6,.p 2 0),(7,.v (.int .u64 (c0:Nat))),(13,.v (.int .i64 0))],[.cells [.v (.int .u64 (t0:Nat)),.v (.int .u64 (t1:Nat)),.v (.int .u64 (t2:Nat)),.v (.int .u64 (t3:Nat)),.v (.int .u64 (t4:Nat)),.v (.int .u64 (t5:Nat))] 235,.cells [.v (.int .u64 (qC a 0:Nat)),.v (.int .u64 (qC a 1:Nat)),.v (.int .u64 (qC a 2:Nat)),.v (.int .u64 (qC a 3:Nat))] 56,.cells [.v (.int .u64 0),.v (.int .u64 0),.v (.int .u64 0),.v (.int .u64 0),.v (.int .u64 0),.v (.int .u64 0)] 235]⟩:=by
 refine FOk.rnd (qE hm 60 ((zYo t0 t1 t2 t3 t4 t5 x c0 a 4 _ _).mpr ⟨?_⟩))
 refine aI (qTe _ x (qV a 0) hx ?_)
 obtain⟨r0,c1,e1,e2,e3,e4,e5⟩:=qRe t0 (qC a 0) x c0 h0 (qV a 0) hx hc
 rw[e1,e2]
 refine aI (aI (aI (aI (And.intro (fun _=>by omega) ?_))))
 refine ac1 r0 t1 t2 t3 t4 t5 x c1 a h1 h2 h3 h4 hx e5 Q ?_
 intro r1 r2 r3 c2 c3 c4 k1 l1 k2 l2 k3 l3 l
 exact hq r0 r1 r2 r3 c1 c2 c3 c4 e3 e4 k1 l1 k2 l2 k3 l3 l
theorem zSp(t a x:Nat)(ha:a<top)(hx:x<18446744073709551616)(ht:t+a*x<qNt)(Q:SV→List HO→Prop)(hq:Q (eS6 (acN t a x)) []):qI Try.prog 147 [eS6 t,eS a,.v (.int .u64 (x:Nat))] [] Q:=by
 refine qJ Try.func147 bAc ?_ ?_
 ·exact nAc t a x
 refine qE hm 60 ((acS (qC t 0) (qC t 1) (qC t 2) (qC t 3) (qC t 4) (qC t 5) x a _ _).mpr ⟨?_⟩)
 refine FOk.loop 5 (by kernel_rfl) (ac0 (qC t 0) (qC t 1) (qC t 2) (qC t 3) (qC t 4) (qC t 5) x 0 a (qV _ _) (qV _ _) (qV _ _) (qV _ _) (qV _ _) hx (by omega) Q ?_)
 intro r0 r1 r2 r3 c1 c2 c3 c4 k0 l0 k1 l1 k2 l2 k3 l3 l
 have h4:=qLk (qC t 4) c4 0
 have hs:=zOe (qC t 0) (qC t 1) (qC t 2) (qC t 3) (qC t 4) (qC t 5) (qC a 0) (qC a 1) (qC a 2) (qC a 3) x r0 r1 r2 r3 (jU (qC t 4) c4 0) c1 c2 c3 c4 (zR (qC t 4) c4 0) k0 k1 k2 k3 h4.1
 rw[zGn t (by omega),qEq a ha] at hs
 have hb:qC t 5+zR (qC t 4) c4 0<18446744073709551616:=by
  rw[hs] at ht
  simp only[nv6,qNt] at ht
  omega
 refine⟨hb,?_⟩
 obtain⟨f0,f1,f2,f3,f4,f5⟩:=zDy l0 l1 l2 l3 h4.2 hb
 rw[qMl,hs,eS6,f0,f1,f2,f3,f4,f5] at hq
 exact hq
noncomputable def gAc:List SV→List HO→Option ((SV→List HO→Prop)→Prop)
 | [.agg [.v (.int .u64 t0),.v (.int .u64 t1),.v (.int .u64 t2),.v (.int .u64 t3),.v (.int .u64 t4),.v (.int .u64 t5)],.agg [.v (.int .u64 a0),.v (.int .u64 a1),.v (.int .u64 a2),.v (.int .u64 a3)],.v (.int .u64 x)],[]=>some fun Q=>acC [t0,t1,t2,t3,t4,t5] [a0,a1,a2,a3] x fun t a x=>Q (eS6 (acN t a x)) []
 | _,_=>none
theorem zLt(args:List SV)(h:List HO)(tr:(SV→List HO→Prop)→Prop)(Q:SV→List HO→Prop)(hc:gAc args h=some tr)(ht:tr Q):qI Try.prog 147 args h Q:=by
 unfold gAc at hc
 split at hc
 ·rename_i t0 t1 t2 t3 t4 t5 a0 a1 a2 a3 x
  simp only[sI] at hc
  subst hc
  obtain⟨t,a,y,e1,e2,rfl,ha,hy,ht2,hq⟩:=ht.h
  simp only[List.cons.injEq,and_true] at e1 e2
  obtain⟨rfl,rfl,rfl,rfl,rfl,rfl⟩:=e1
  obtain⟨rfl,rfl,rfl,rfl⟩:=e2
  exact zSp t a y ha hy ht2 Q hq
 ·cases hc
noncomputable def K25:Con Try.prog:=K24.add 147 gAc zLt
end Go.Proofs.Ytlmjdcbhpffanaa
/- Montgomery's product. -/
namespace Go.Pl
open Go.Sx
theorem qJw(P a x g t:Nat)(hg:(g*P+1)%18446744073709551616=0)(ha:a<P)(hx:x<18446744073709551616)(ht:t<2*P)(hP:2*P<top):
  t+a*x<qNt∧(qC (acN t a x) 0*g)%18446744073709551616<18446744073709551616∧acN t a x+P*((qC (acN t a x) 0*g)%18446744073709551616)<qNt ∧
  ∃ u m:Nat,u<2*P∧(qC (acN t a x) 0*g)%18446744073709551616=m∧acN (acN t a x) P m=18446744073709551616*u∧18446744073709551616*u=t+a*x+P*m:=by
 have h1:a*x≤P*18446744073709551615:=Nat.mul_le_mul (by omega) (by omega)
 have h2:P*((qC (acN t a x) 0*g)%18446744073709551616)≤P*18446744073709551615:=Nat.mul_le_mul (Nat.le_refl _) (by omega)
 have h3:qC (acN t a x) 0=(t+a*x)%18446744073709551616:=by rw[qOr,qMl]
 generalize hm:(qC (acN t a x) 0*g)%18446744073709551616=m at *
 have h4:(t+a*x+P*m)%18446744073709551616=0:=by
  have e:P*m%18446744073709551616=qC (acN t a x) 0*(g*P)%18446744073709551616:=by
   rw[← hm,Nat.mul_mod_mod,← Nat.mul_assoc,Nat.mul_comm P,Nat.mul_assoc,Nat.mul_comm P g]
  have e2:qC (acN t a x) 0*(g*P+1)%18446744073709551616=0:=by rw[Nat.mul_mod,hg,Nat.mul_zero,Nat.zero_mod]
  rw[Nat.mul_add,Nat.mul_one] at e2
  generalize qC (acN t a x) 0*(g*P)=w at *
  rw[h3] at e2
  generalize t+a*x=v at *
  omega
 refine⟨?_,by omega,?_,(t+a*x+P*m) / 18446744073709551616,m,?_,rfl,?_,?_⟩
 ·simp only[top,qNt] at *; omega
 ·rw[qMl]; simp only[top,qNt] at *; omega
 ·omega
 ·rw[qMl,qMl]; omega
 ·omega
theorem qEz(u:Nat):[(qC (18446744073709551616*u) 1:Int),(qC (18446744073709551616*u) 2:Int),(qC (18446744073709551616*u) 3:Int),(qC (18446744073709551616*u) 4:Int),(qC (18446744073709551616*u) 5:Int),0]=eI6 u∨2135987035920910082395021706169552114602704522356652769947041607822219725780640550022962086936576≤u:=by
 by_cases h5:2135987035920910082395021706169552114602704522356652769947041607822219725780640550022962086936576≤u
 ·exact .inr h5
 ·refine .inl ?_
  have e:(18446744073709551616*u) / 18446744073709551616=u:=by omega
  have s:∀ i,qC (18446744073709551616*u) (i+1)=qC u i:=fun i=>by
   rw[qC,qC,qM,qM,Nat.pow_succ,Nat.mul_comm _ 18446744073709551616,← Nat.div_div_eq_div_mul,e]
  have z:qC u 5=0:=by rw[zGu]; omega
  rw[show(1:Nat)=0+1 from rfl,s 0,show(2:Nat)=1+1 from rfl,s 1,show(3:Nat)=2+1 from rfl,s 2,show(4:Nat)=3+1 from rfl,s 3,show(5:Nat)=4+1 from rfl,s 4,eI6,z]
  rfl
def Ri(P:Nat):Nat:=if P=28948022309329048855892746252171976963363056481941560715954676764349967630337 then 15353493766103302224812374511606760489073247795810767472367693728416386214313 else 14238205147845459960272226733876560297615832660064601289232577236146637664127
noncomputable def fG(P a b:Nat):Nat:=yO (a*b*Ri P%P)
theorem qZv(P a b:Nat):fG P a b=a*b*Ri P%P:=qM _
theorem zEh(P a b0 b1 b2 b3 u1 u2 u3 u4 m0 m1 m2 m3:Nat)(h0:18446744073709551616*u1=0+a*b0+P*m0)(h1:18446744073709551616*u2=u1+a*b1+P*m1)(h2:18446744073709551616*u3=u2+a*b2+P*m2)(h3:18446744073709551616*u4=u3+a*b3+P*m3):
  u4*top=a*nv b0 b1 b2 b3+P*nv m0 m1 m2 m3:=by
 have e1:a*nv b0 b1 b2 b3=a*b0+18446744073709551616*(a*b1)+340282366920938463463374607431768211456*(a*b2)+6277101735386680763835789423207666416102355444464034512896*(a*b3):=by
  simp only[nv,Nat.mul_add]
  rw[Nat.mul_left_comm a 18446744073709551616,Nat.mul_left_comm a 340282366920938463463374607431768211456,Nat.mul_left_comm a 6277101735386680763835789423207666416102355444464034512896]
 have e2:P*nv m0 m1 m2 m3=P*m0+18446744073709551616*(P*m1)+340282366920938463463374607431768211456*(P*m2)+6277101735386680763835789423207666416102355444464034512896*(P*m3):=by
  simp only[nv,Nat.mul_add]
  rw[Nat.mul_left_comm P 18446744073709551616,Nat.mul_left_comm P 340282366920938463463374607431768211456,Nat.mul_left_comm P 6277101735386680763835789423207666416102355444464034512896]
 rw[e1,e2]
 simp only[top]
 omega
theorem zFq(P a b u M:Nat)(hu:u<2*P)(h:u*top=a*b+P*M)(hr:top*Ri P%P=1%P):(if P≤u then u-P else u)=fG P a b:=by
 have e1:u%P=fG P a b:=by
  rw[qZv]
  have:(a*b+P*M)*Ri P%P=a*b*Ri P%P:=by
   rw[Nat.add_mul,Nat.mul_assoc P,Nat.add_mul_mod_self_left]
  rw[← this,← h,Nat.mul_assoc,Nat.mul_mod,hr,← Nat.mul_mod,Nat.mul_one]
 rw[← e1]
 split
 ·rename_i h; rw[Nat.mod_eq_sub_mod h,Nat.mod_eq_of_lt (by omega)]
 ·rename_i h; rw[Nat.mod_eq_of_lt (by omega)]
theorem zKr:top*Ri 28948022309329048855892746252171976963363056481941560715954676764349967630337%28948022309329048855892746252171976963363056481941560715954676764349967630337=1%28948022309329048855892746252171976963363056481941560715954676764349967630337:=by decide +kernel
theorem zKj:top*Ri 28948022309329048855892746252171976963363056481941647379679742748393362948097%28948022309329048855892746252171976963363056481941647379679742748393362948097=1%28948022309329048855892746252171976963363056481941647379679742748393362948097:=by decide +kernel
structure rcC (ns ds es : List Int) (k : Nat → Nat → Nat → Prop) : Prop where
  h : ∃ P a b : Nat, qFo ns P ∧ 16521217 < P ∧ ds = eI a ∧ es = eI b ∧ a < P ∧ b < top ∧ k P a b
theorem zNd{ns:List Int}{k:Nat→Nat→Nat→Prop}(P a b:Nat)(hn:qFo ns P)(hg:16521217<P)(ha:a<P)(hb:b<top)(h:k P a b):rcC ns (eI a) (eI b) k:=⟨⟨P,a,b,hn,hg,rfl,rfl,ha,hb,h⟩⟩
theorem qRh(a b:Nat):IntKind.wrap IntKind.u64 ((a:Int)*(b:Int))=((a*b%18446744073709551616:Nat):Int):=by
 rw[zSg,zLg]
theorem zEi:[(0:Int),0,0,0,0,0]=eI6 0:=by simp only[eI6,qCh]; rfl
end Go.Pl
namespace Go.Proofs.Ytlmjdcbhpffanaa
open Go.Sx Go.Pl
set_option linter.unusedVariables false
set_option maxRecDepth 100000
theorem mgS(P a b ng:Nat)(ad q0 q1 q2 q3:Int)(K:List It→St→Prop)(R:SV→List HO→Prop):W (xwp Try.prog X K25 [] 60 (qO Try.f146 [([0,1,0,1,1],5)] []) [] [.at []] ⟨qQ 0 [.agg [.v (.int .u64 (qC P 0:Nat)),.v (.int .u64 (qC P 1:Nat)),.v (.int .u64 (qC P 2:Nat)),.v (.int .u64 (qC P 3:Nat)),.v (.int .i64 ad),.v (.int .u64 0),.v (.int .u64 (ng:Nat)),.v (.int .u64 q0),.v (.int .u64 q1),.v (.int .u64 q2),.v (.int .u64 q3)],eS a,eS b],[]⟩ K R)=W ((∀ M:Mem,(0:Int)≤(0:Int)∧(0:Int)<(4:Int))∧acC [(0:Int),(0:Int),(0:Int),(0:Int),(0:Int),(0:Int)] (eI a) (↑(qC b 0):Int) fun(t a_1 x:Nat)=>(∀ M:Mem,0+6≤6)∧(∀ M:Mem,(0:Int)≤(0:Int)∧(0:Int)<(6:Int))∧acC (eI6 (acN t a_1 x)) (eI P) (IntKind.wrap IntKind.u64 ((↑(qC (acN t a_1 x) 0):Int)*(↑ng:Int))) fun(t a_2 x:Nat)=>(∀ M:Mem,0+6≤6)∧(∀ M:Mem,(0:Int)≤(1:Int)∧(1:Int)<(6:Int))∧(∀ M:Mem,(0:Int)≤(2:Int)∧(2:Int)<(6:Int))∧(∀ M:Mem,(0:Int)≤(3:Int)∧(3:Int)<(6:Int))∧(∀ M:Mem,(0:Int)≤(4:Int)∧(4:Int)<(6:Int))∧(∀ M:Mem,(0:Int)≤(5:Int)∧(5:Int)<(6:Int))∧(∀ M:Mem,0+6≤6)∧(∀ M:Mem,(0:Int)≤(1:Int)∧(1:Int)<(4:Int))∧acC [(↑(qC (acN t a_2 x) 1):Int),(↑(qC (acN t a_2 x) 2):Int),(↑(qC (acN t a_2 x) 3):Int),(↑(qC (acN t a_2 x) 4):Int),(↑(qC (acN t a_2 x) 5):Int),(0:Int)] (eI a) (↑(qC b 1):Int) fun(t a_3 x:Nat)=>(∀ M:Mem,0+6≤6)∧(∀ M:Mem,(0:Int)≤(0:Int)∧(0:Int)<(6:Int))∧acC (eI6 (acN t a_3 x)) (eI P) (IntKind.wrap IntKind.u64 ((↑(qC (acN t a_3 x) 0):Int)*(↑ng:Int))) fun(t a_4 x:Nat)=>(∀ M:Mem,0+6≤6)∧(∀ M:Mem,(0:Int)≤(1:Int)∧(1:Int)<(6:Int))∧(∀ M:Mem,(0:Int)≤(2:Int)∧(2:Int)<(6:Int))∧(∀ M:Mem,(0:Int)≤(3:Int)∧(3:Int)<(6:Int))∧(∀ M:Mem,(0:Int)≤(4:Int)∧(4:Int)<(6:Int))∧(∀ M:Mem,(0:Int)≤(5:Int)∧(5:Int)<(6:Int))∧(∀ M:Mem,0+6≤6)∧(∀ M:Mem,(0:Int)≤(2:Int)∧(2:Int)<(4:Int))∧acC [(↑(qC (acN t a_4 x) 1):Int),(↑(qC (acN t a_4 x) 2):Int),(↑(qC (acN t a_4 x) 3):Int),(↑(qC (acN t a_4 x) 4):Int),(↑(qC (acN t a_4 x) 5):Int),(0:Int)] (eI a) (↑(qC b 2):Int) fun(t a_5 x:Nat)=>(∀ M:Mem,0+6≤6)∧(∀ M:Mem,(0:Int)≤(0:Int)∧(0:Int)<(6:Int))∧acC (eI6 (acN t a_5 x)) (eI P) (IntKind.wrap IntKind.u64 ((↑(qC (acN t a_5 x) 0):Int)*(↑ng:Int))) fun(t a_6 x:Nat)=>(∀ M:Mem,0+6≤6)∧(∀ M:Mem,(0:Int)≤(1:Int)∧(1:Int)<(6:Int))∧(∀ M:Mem,(0:Int)≤(2:Int)∧(2:Int)<(6:Int))∧(∀ M:Mem,(0:Int)≤(3:Int)∧(3:Int)<(6:Int))∧(∀ M:Mem,(0:Int)≤(4:Int)∧(4:Int)<(6:Int))∧(∀ M:Mem,(0:Int)≤(5:Int)∧(5:Int)<(6:Int))∧(∀ M:Mem,0+6≤6)∧(∀ M:Mem,(0:Int)≤(3:Int)∧(3:Int)<(4:Int))∧acC [(↑(qC (acN t a_6 x) 1):Int),(↑(qC (acN t a_6 x) 2):Int),(↑(qC (acN t a_6 x) 3):Int),(↑(qC (acN t a_6 x) 4):Int),(↑(qC (acN t a_6 x) 5):Int),(0:Int)] (eI a) (↑(qC b 3):Int) fun(t a x:Nat)=>(∀ M:Mem,0+6≤6)∧(∀ M:Mem,(0:Int)≤(0:Int)∧(0:Int)<(6:Int))∧acC (eI6 (acN t a x)) (eI P) (IntKind.wrap IntKind.u64 ((↑(qC (acN t a x) 0):Int)*(↑ng:Int))) fun(t a x:Nat)=>(∀ M:Mem,0+6≤6)∧(∀ M:Mem,(0:Int)≤(1:Int)∧(1:Int)<(6:Int))∧(∀ M:Mem,(0:Int)≤(2:Int)∧(2:Int)<(6:Int))∧(∀ M:Mem,(0:Int)≤(3:Int)∧(3:Int)<(6:Int))∧(∀ M:Mem,(0:Int)≤(4:Int)∧(4:Int)<(6:Int))∧(∀ M:Mem,(0:Int)≤(5:Int)∧(5:Int)<(6:Int))∧(∀ M:Mem,0+6≤6)∧(∀ M:Mem,(0:Int)≤(4:Int)∧(4:Int)≤(6:Int))∧(∀ M:Mem,4≤4)∧(∀ M:Mem,0+4≤4)∧c2C [(↑(qC (acN t a x) 1):Int),(↑(qC (acN t a x) 2):Int),(↑(qC (acN t a x) 3):Int),(↑(qC (acN t a x) 4):Int)] (eI P) fun(a_7 b:Nat)=>(∀ M:Mem,0+4≤4)∧(∀ M:Mem,(0:Int)≤(4:Int)∧(4:Int)<(6:Int))∧bif !(↑(qC (acN t a x) 5):Int)==(0:Int) then(∀ M:Mem,0+4≤4)∧(∀ M:Mem,0+4≤4)∧R ((eS (qGk a_7 b))) [] else bif !decide (a_7<b) then(∀ M:Mem,0+4≤4)∧(∀ M:Mem,0+4≤4)∧R ((eS (qGk a_7 b))) [] else(∀ M:Mem,0+4≤4)∧R (.agg [.v (qD (↑(qC (acN t a x) 1):Int)),.v (qD (↑(qC (acN t a x) 2):Int)),.v (qD (↑(qC (acN t a x) 3):Int)),.v (qD (↑(qC (acN t a x) 4):Int))]) []):=by kernel_rfl
theorem bMg:Try.f146.body.isSome=true:=by kernel_rfl
theorem nMg(P a b ng:Nat)(ad q0 q1 q2 q3:Int):Nat.ble [SV.agg [.v (.int .u64 (qC P 0:Nat)),.v (.int .u64 (qC P 1:Nat)),.v (.int .u64 (qC P 2:Nat)),.v (.int .u64 (qC P 3:Nat)),.v (.int .i64 ad),.v (.int .u64 0),.v (.int .u64 (ng:Nat)),.v (.int .u64 q0),.v (.int .u64 q1),.v (.int .u64 q2),.v (.int .u64 q3)],eS a,eS b].length Try.f146.ntmps=true:=by kernel_rfl
theorem zKs(P a b ng:Nat)(ad q0 q1 q2 q3:Int)(hg:(ng*P+1)%18446744073709551616=0)(hP:2*P<top)(hr:top*Ri P%P=1%P)(ha:a<P)(hb:b<top)(Q:SV→List HO→Prop)(hq:Q (eS (fG P a b)) []):qI Try.prog 146 [.agg [.v (.int .u64 (qC P 0:Nat)),.v (.int .u64 (qC P 1:Nat)),.v (.int .u64 (qC P 2:Nat)),.v (.int .u64 (qC P 3:Nat)),.v (.int .i64 ad),.v (.int .u64 0),.v (.int .u64 (ng:Nat)),.v (.int .u64 q0),.v (.int .u64 q1),.v (.int .u64 q2),.v (.int .u64 q3)],eS a,eS b] [] Q:=by
 have ta:a<top:=by omega
 have tp:P<top:=by omega
 obtain⟨a0,b0,c0,u1,m0,d0,em0,e0,s0⟩:=qJw P a (qC b 0) ng 0 hg ha (qV b 0) (by omega) hP
 obtain⟨a1,b1,c1,u2,m1,d1,em1,e1,s1⟩:=qJw P a (qC b 1) ng u1 hg ha (qV b 1) d0 hP
 obtain⟨a2,b2,c2,u3,m2,d2,em2,e2,s2⟩:=qJw P a (qC b 2) ng u2 hg ha (qV b 2) d1 hP
 obtain⟨a3,b3,c3,u4,m3,d3,em3,e3,s3⟩:=qJw P a (qC b 3) ng u3 hg ha (qV b 3) d2 hP
 have hs:=zEh P a (qC b 0) (qC b 1) (qC b 2) (qC b 3) u1 u2 u3 u4 m0 m1 m2 m3 s0 s1 s2 s3
 rw[qEq b hb] at hs
 have he:=zFq P a b u4 _ d3 hs hr
 refine qJ Try.func146 bMg ?_ ?_
 ·exact nMg P a b ng ad q0 q1 q2 q3
 refine qE hm 60 ((mgS P a b ng ad q0 q1 q2 q3 _ _).mpr ⟨?_⟩)
 rw[zEi]
 refine And.intro (fun _=>by omega) ?_
 refine qDt 0 a (qC b 0) ta (qV b 0) a0 (aI (aI (?_)))
 rw[qRh,em0]
 refine qDt (acN 0 a (qC b 0)) P m0 tp (by rw[← em0]; exact b0) (by rw[← em0]; exact c0) ?_
 refine aI (aI (aI (aI (aI (aI (aI (?_)))))))
 refine And.intro (fun _=>by omega) ?_
 rw[e0,(qEz u1).resolve_right (by simp only[top] at hP; omega)]
 refine qDt u1 a (qC b 1) ta (qV b 1) a1 (aI (aI (?_)))
 rw[qRh,em1]
 refine qDt (acN u1 a (qC b 1)) P m1 tp (by rw[← em1]; exact b1) (by rw[← em1]; exact c1) ?_
 refine aI (aI (aI (aI (aI (aI (aI (?_)))))))
 refine And.intro (fun _=>by omega) ?_
 rw[e1,(qEz u2).resolve_right (by simp only[top] at hP; omega)]
 refine qDt u2 a (qC b 2) ta (qV b 2) a2 (aI (aI (?_)))
 rw[qRh,em2]
 refine qDt (acN u2 a (qC b 2)) P m2 tp (by rw[← em2]; exact b2) (by rw[← em2]; exact c2) ?_
 refine aI (aI (aI (aI (aI (aI (aI (?_)))))))
 refine And.intro (fun _=>by omega) ?_
 rw[e2,(qEz u3).resolve_right (by simp only[top] at hP; omega)]
 refine qDt u3 a (qC b 3) ta (qV b 3) a3 (aI (aI (?_)))
 rw[qRh,em3]
 refine qDt (acN u3 a (qC b 3)) P m3 tp (by rw[← em3]; exact b3) (by rw[← em3]; exact c3) ?_
 refine aI (aI (aI (aI (aI (aI (aI (?_)))))))
 refine aI (aI (aI (?_)))
 have sh:=(qEz u4).resolve_right (by simp only[top] at hP; omega)
 simp only[eI6,List.cons.injEq,Int.natCast_inj,and_true] at sh
 obtain⟨g0,g1,g2,g3,g4,_⟩:=sh
 have z:qC u4 4=0:=by rw[zEl]; simp only[top] at hP; omega
 rw[e3,g0,g1,g2,g3,g4,z]
 refine wD u4 P (by omega) tp (aI (aI (?_)))
 rw[show(!((0:Nat):Int)==(0:Int))=false from rfl,cond_false,zC,qF]
 rw[← he] at hq
 refine qH (fun h=>?_) (fun h=>?_)
 ·rw[if_neg (by omega)] at hq
  exact And.intro (fun _=>by omega) hq
 ·rw[if_pos (by omega)] at hq
  refine aI (And.intro (fun _=>by omega) ?_)
  rw[eS,jP u4 P (by omega) 0 (by omega),jP u4 P (by omega) 1 (by omega),jP u4 P (by omega) 2 (by omega),jP u4 P (by omega) 3 (by omega)]
  exact hq
noncomputable def gMg:List SV→List HO→Option ((SV→List HO→Prop)→Prop)
 | [.agg [.v (.int .u64 p0),.v (.int .u64 p1),.v (.int .u64 p2),.v (.int .u64 p3),.v (.int .i64 ad),.v (.int .u64 sm),.v (.int .u64 ng),.v (.int .u64 q0),.v (.int .u64 q1),.v (.int .u64 q2),.v (.int .u64 q3)],.agg [.v (.int .u64 a0),.v (.int .u64 a1),.v (.int .u64 a2),.v (.int .u64 a3)],.agg [.v (.int .u64 b0),.v (.int .u64 b1),.v (.int .u64 b2),.v (.int .u64 b3)]],[]=>some fun Q=>rcC [p0,p1,p2,p3,ad,sm,ng,q0,q1,q2,q3] [a0,a1,a2,a3] [b0,b1,b2,b3] fun P a b=>Q (eS (fG P a b)) []
 | _,_=>none
theorem zQn(args:List SV)(h:List HO)(tr:(SV→List HO→Prop)→Prop)(Q:SV→List HO→Prop)(hc:gMg args h=some tr)(ht:tr Q):qI Try.prog 146 args h Q:=by
 unfold gMg at hc
 split at hc
 ·rename_i p0 p1 p2 p3 ad sm ng q0 q1 q2 q3 a0 a1 a2 a3 b0 b1 b2 b3
  simp only[sI] at hc
  subst hc
  obtain⟨P,a,b,hn,hg,e1,e2,ha,hb,hq⟩:=ht.h
  simp only[List.cons.injEq,and_true] at e1 e2
  obtain⟨rfl,rfl,rfl,rfl⟩:=e1
  obtain⟨rfl,rfl,rfl,rfl⟩:=e2
  cases hn
  ·omega
  ·omega
  ·have:=zKs 28948022309329048855892746252171976963363056481941560715954676764349967630337 a b 11037532056220336127 32 10122100416058490895 15551789045973377255 8617542898466512152 679271340751763220 (by omega) (by simp only[top]; omega) zKr ha hb Q hq
   rw[xE.1,xE.2.1,xE.2.2.1,xE.2.2.2] at this
   exact this
  ·have:=zKs 28948022309329048855892746252171976963363056481941647379679742748393362948097 a b 10108024940646105087 32 18200867980676431887 7474641938123724515 9200329640471491984 679271340771891881 (by omega) (by simp only[top]; omega) zKj ha hb Q hq
   rw[xF.1,xF.2.1,xF.2.2.1,xF.2.2.2] at this
   exact this
 ·cases hc
noncomputable def K26:Con Try.prog:=K25.add 146 gMg zQn
end Go.Proofs.Ytlmjdcbhpffanaa
/- Products in the fields. -/
namespace Go.Pl
open Go.Sx
noncomputable def fM(P a b:Nat):Nat:=yO (a*b%P)
theorem zDt(P a b:Nat):fM P a b=a*b%P:=qM _
theorem zKk{P:Nat}(hP:2<P)(a b:Nat):fM P a b<P:=by rw[zDt]; exact Nat.mod_lt _ (by omega)
noncomputable def fMu(s:Int)(a b:Nat):Nat:=if fP s=0 then 0 else fM (fP s) a b
theorem zJk(p0 p1 p2 p3 ad sm ng q0 q1 q2 q3:Int){P:Nat}(hn:qFo [p0,p1,p2,p3,ad,sm,ng,q0,q1,q2,q3] P):sm=(P:Int)∧P≤16521217∨sm=0∧16521217<P∧∃ S,S<P∧[q0,q1,q2,q3]=eI S∧S=top*top%P∧top*Ri P%P=1%P:=by
 cases hn
 ·exact .inl ⟨rfl,by omega⟩
 ·exact .inl ⟨rfl,by omega⟩
 ·refine .inr ⟨rfl,by omega,4263855311831330276397237192126260515652039413828781833859739249380679483407,by omega,?_,by decide +kernel,zKr⟩
  have:=zBd (n:=4263855311831330276397237192126260515652039413828781833859739249380679483407) (a:=10122100416058490895) (b:=15551789045973377255) (c:=8617542898466512152) (d:=679271340751763220) (by simp only[nv]) (by omega) (by omega) (by omega) (by omega)
  rw[eI,this.1,this.2.1,this.2.2.1,this.2.2.2]; rfl
 ·refine .inr ⟨rfl,by omega,4263855311957679929489659445116329028194309752796460188622876710448966664207,by omega,?_,by decide +kernel,zKj⟩
  have:=zBd (n:=4263855311957679929489659445116329028194309752796460188622876710448966664207) (a:=18200867980676431887) (b:=7474641938123724515) (c:=9200329640471491984) (d:=679271340771891881) (by simp only[nv]) (by omega) (by omega) (by omega) (by omega)
  rw[eI,this.1,this.2.1,this.2.2.1,this.2.2.2]; rfl
theorem zTq{P:Nat}(hP:2<P)(a b:Nat):fG P a b<P:=by rw[qZv]; exact Nat.mod_lt _ (by omega)
theorem zDh(P x y:Nat):x%P*y%P=x*y%P:=by rw[Nat.mul_mod,Nat.mod_mod,← Nat.mul_mod]
theorem zQs(P a b S:Nat)(hS:S=top*top%P)(hr:top*Ri P%P=1%P):fG P (fG P (fR P a) (fR P b)) S=fM P a b:=by
 rw[zDt,qZv,qZv,xX,xX,hS]
 have e1:a%P*(b%P)*Ri P%P=a*b*Ri P%P:=by
  rw[← zDh P (a%P*(b%P)),← Nat.mul_mod,zDh]
 rw[e1]
 rw[Nat.mul_assoc,zDh,← Nat.mul_assoc]
 have e2:a*b*Ri P*(top*top%P)*Ri P%P=a*b*(Ri P*top)*(Ri P*top)%P:=by
  rw[Nat.mul_assoc (a*b*Ri P),Nat.mul_comm (top*top%P),← Nat.mul_assoc,Nat.mul_mod_mod]
  congr 1
  simp only[Nat.mul_assoc,Nat.mul_comm,Nat.mul_left_comm]
 rw[e2,Nat.mul_mod,Nat.mul_comm (Ri P),hr,← Nat.mul_mod,Nat.mul_one,Nat.mul_mod,hr,← Nat.mul_mod,Nat.mul_one]
theorem zBx{P:Nat}(hP:2<P)(hs:P≤16521217)(a b:Nat):SV.agg [SV.v (qD (Int.tmod (IntKind.wrap IntKind.u64 ((↑(qC (fR P a) 0):Int)*(↑(qC (fR P b) 0):Int))) (P:Int))),SV.v (qD (0:Int)),SV.v (qD (0:Int)),SV.v (qD (0:Int))]=eS (fM P a b):=by
 have h1:=qZi P a (by omega)
 have h2:=qZi P b (by omega)
 have h3:=zKk hP a b
 obtain⟨l0,l1,l2,l3⟩:=qZ (fM P a b) (by omega)
 have hm:fR P a*fR P b≤16521217*16521217:=Nat.mul_le_mul (by omega) (by omega)
 rw[(qZ (fR P a) (by omega)).1,(qZ (fR P b) (by omega)).1,zSg,qAb _ (by omega),eS,l0,l1,l2,l3]
 rw[show Int.tmod ((fR P a*fR P b:Nat):Int) (P:Int)=((fR P a*fR P b%P:Nat):Int) from rfl,zDt,xX,xX,← Nat.mul_mod]
 rfl
end Go.Pl
namespace Go.Proofs.Ytlmjdcbhpffanaa
open Go.Sx Go.Pl
set_option linter.unusedVariables false
set_option maxRecDepth 100000
noncomputable def nmQ(p0 p1 p2 p3 ad sm ng q0 q1 q2 q3:Int)(P a P_1 a_1:Nat)(R:SV→List HO→Prop):Prop:=(∀(M:Mem),0+4≤4)∧(∀(M:Mem),0+4≤4)∧bif !sm==(0:Int) then(∀(M:Mem),(0:Int)≤(0:Int)∧(0:Int)<(4:Int))∧(∀(M:Mem),(0:Int)≤(0:Int)∧(0:Int)<(4:Int))∧(∀(M:Mem),¬sm=(0:Int))∧(∀(M:Mem),0+4≤4)∧R (SV.agg [SV.v (qD (Int.tmod (IntKind.wrap IntKind.u64 ((↑(qC (fR P a) 0):Int)*(↑(qC (fR P_1 a_1) 0):Int))) sm)),SV.v (qD (0:Int)),SV.v (qD (0:Int)),SV.v (qD (0:Int))]) [] else rcC [p0,p1,p2,p3,ad,sm,ng,q0,q1,q2,q3] (eI (fR P a)) (eI (fR P_1 a_1)) fun(P a b:Nat)=>rcC [p0,p1,p2,p3,ad,sm,ng,q0,q1,q2,q3] (eI (fG P a b)) [q0,q1,q2,q3] fun(P a b:Nat)=>(∀(M:Mem),0+4≤4)∧R ((eS (fG P a b))) []
theorem nmS(p0 p1 p2 p3 ad sm ng q0 q1 q2 q3:Int)(a b:Nat)(K:List It→St→Prop)(R:SV→List HO→Prop):W (xwp Try.prog X K26 [] 60 (qO Try.f145 [] []) [] [.at []] ⟨qQ 0 [.agg [.v (.int .u64 p0),.v (.int .u64 p1),.v (.int .u64 p2),.v (.int .u64 p3),.v (.int .i64 ad),.v (.int .u64 sm),.v (.int .u64 ng),.v (.int .u64 q0),.v (.int .u64 q1),.v (.int .u64 q2),.v (.int .u64 q3)],eS a,eS b],[]⟩ K R)=W (reC [p0,p1,p2,p3,ad,sm,ng,q0,q1,q2,q3] (eI a) fun(P a:Nat)=>reC [p0,p1,p2,p3,ad,sm,ng,q0,q1,q2,q3] (eI b) fun(P_1 a_1:Nat)=>nmQ p0 p1 p2 p3 ad sm ng q0 q1 q2 q3 P a P_1 a_1 R):=by kernel_rfl
theorem bNm:Try.f145.body.isSome=true:=by kernel_rfl
theorem nNm(p0 p1 p2 p3 ad sm ng q0 q1 q2 q3:Int)(a b:Nat):Nat.ble [SV.agg [.v (.int .u64 p0),.v (.int .u64 p1),.v (.int .u64 p2),.v (.int .u64 p3),.v (.int .i64 ad),.v (.int .u64 sm),.v (.int .u64 ng),.v (.int .u64 q0),.v (.int .u64 q1),.v (.int .u64 q2),.v (.int .u64 q3)],eS a,eS b].length Try.f145.ntmps=true:=by kernel_rfl
theorem zUx(p0 p1 p2 p3 ad sm ng q0 q1 q2 q3:Int)(P a b:Nat)(hn:qFo [p0,p1,p2,p3,ad,sm,ng,q0,q1,q2,q3] P)(ha:a<top)(hb:b<top)(Q:SV→List HO→Prop)(hq:Q (eS (fM P a b)) []):qI Try.prog 145 [.agg [.v (.int .u64 p0),.v (.int .u64 p1),.v (.int .u64 p2),.v (.int .u64 p3),.v (.int .i64 ad),.v (.int .u64 sm),.v (.int .u64 ng),.v (.int .u64 q0),.v (.int .u64 q1),.v (.int .u64 q2),.v (.int .u64 q3)],eS a,eS b] [] Q:=by
 have hP:=qRw hn
 have la:=qPh P a (by omega)
 have tb:=(qRr hP b).1
 refine qJ Try.func145 bNm ?_ ?_
 ·exact nNm p0 p1 p2 p3 ad sm ng q0 q1 q2 q3 a b
 refine qE hm 60 ((nmS p0 p1 p2 p3 ad sm ng q0 q1 q2 q3 a b _ _).mpr ⟨?_⟩)
 rcases zJk p0 p1 p2 p3 ad sm ng q0 q1 q2 q3 hn with ⟨hs,hl⟩ | ⟨hs,hg,S,hS,e1,e2,hr⟩
 ·have h0:¬ sm=0:=by omega
  rw[← zBx (by omega) hl,← hs] at hq
  have q:nmQ p0 p1 p2 p3 ad sm ng q0 q1 q2 q3 P a P b Q:=by
   unfold nmQ
   simp only[zC,zF,forall_const,if_neg h0]
   repeat' (first | refine And.intro ?_ ?_ | exact hq)
   all_goals first
    | exact h0
    | omega
  repeat' (first | exact q | refine And.intro ?_ ?_ | refine yV P a hn ha ?_ | refine yV P b hn hb ?_)
 ·rw[← zQs P a b S e2 hr] at hq
  have tg:fG P (fR P a) (fR P b)<P:=zTq (by omega) _ _
  have q:nmQ p0 p1 p2 p3 ad sm ng q0 q1 q2 q3 P a P b Q:=by
   unfold nmQ
   simp only[zC,zF,forall_const,if_pos hs]
   refine And.intro (by omega) (And.intro (by omega) (zNd P (fR P a) (fR P b) hn hg la tb ?_))
   exact⟨⟨P,fG P (fR P a) (fR P b),S,hn,hg,rfl,e1,tg,by omega,And.intro (by omega) hq⟩⟩
  repeat' (first | exact q | refine And.intro ?_ ?_ | refine yV P a hn ha ?_ | refine yV P b hn hb ?_)
noncomputable def gNm:List SV→List HO→Option ((SV→List HO→Prop)→Prop)
 | [.agg [.v (.int .u64 p0),.v (.int .u64 p1),.v (.int .u64 p2),.v (.int .u64 p3),.v (.int .i64 ad),.v (.int .u64 sm),.v (.int .u64 ng),.v (.int .u64 q0),.v (.int .u64 q1),.v (.int .u64 q2),.v (.int .u64 q3)],.agg [.v (.int .u64 a0),.v (.int .u64 a1),.v (.int .u64 a2),.v (.int .u64 a3)],.agg [.v (.int .u64 b0),.v (.int .u64 b1),.v (.int .u64 b2),.v (.int .u64 b3)]],[]=>some fun Q=>qMw [p0,p1,p2,p3,ad,sm,ng,q0,q1,q2,q3] [a0,a1,a2,a3] [b0,b1,b2,b3] fun P a b=>Q (eS (fM P a b)) []
 | _,_=>none
theorem zPx(args:List SV)(h:List HO)(tr:(SV→List HO→Prop)→Prop)(Q:SV→List HO→Prop)(hc:gNm args h=some tr)(ht:tr Q):qI Try.prog 145 args h Q:=by
 unfold gNm at hc
 split at hc
 ·rename_i p0 p1 p2 p3 ad sm ng q0 q1 q2 q3 a0 a1 a2 a3 b0 b1 b2 b3
  simp only[sI] at hc
  subst hc
  obtain⟨P,a,b,hn,e1,e2,ha,hb,hq⟩:=ht.h
  simp only[List.cons.injEq,and_true] at e1 e2
  obtain⟨rfl,rfl,rfl,rfl⟩:=e1
  obtain⟨rfl,rfl,rfl,rfl⟩:=e2
  exact zUx p0 p1 p2 p3 ad sm ng q0 q1 q2 q3 P a b hn ha hb Q hq
 ·cases hc
noncomputable def K27:Con Try.prog:=K26.add 145 gNm zPx
end Go.Proofs.Ytlmjdcbhpffanaa
/- The fields' products, by the sort. -/
namespace Go.Proofs.Ytlmjdcbhpffanaa
open Go.Sx Go.Pl
set_option linter.unusedVariables false
set_option maxRecDepth 100000
theorem fmS(s:Int)(a b:Nat)(K:List It→St→Prop)(R:SV→List HO→Prop):W (xwp Try.prog X K27 [(53,[])] 60 (qO Try.f144 [] []) [] [.at []] ⟨qQ 0 [.v (.int .i64 s),eS a,eS b],[]⟩ K R)=W (bif s==(0:Int) then(∀ M:Mem,11≤11)∧(∀ M:Mem,11≤11)∧qMw [(16513537:Int),(0:Int),(0:Int),(0:Int),(9:Int),(16513537:Int),(0:Int),(0:Int),(0:Int),(0:Int),(0:Int)] (eI a) (eI b) fun(P a b:Nat)=>(∀ M:Mem,0+4≤4)∧R ((eS (fM P a b))) [] else bif s==(1:Int) then(∀ M:Mem,11≤11)∧(∀ M:Mem,11≤11)∧qMw [(16521217:Int),(0:Int),(0:Int),(0:Int),(11:Int),(16521217:Int),(0:Int),(0:Int),(0:Int),(0:Int),(0:Int)] (eI a) (eI b) fun(P a b:Nat)=>(∀ M:Mem,0+4≤4)∧R ((eS (fM P a b))) [] else bif s==(2:Int) then(∀ M:Mem,11≤11)∧(∀ M:Mem,11≤11)∧qMw [(11037532056220336129:Int),(2469829653914515739:Int),(0:Int),(4611686018427387904:Int),(32:Int),(0:Int),(11037532056220336127:Int),(10122100416058490895:Int),(15551789045973377255:Int),(8617542898466512152:Int),(679271340751763220:Int)] (eI a) (eI b) fun(P a b:Nat)=>(∀ M:Mem,0+4≤4)∧R ((eS (fM P a b))) [] else bif s==(3:Int) then(∀ M:Mem,11≤11)∧(∀ M:Mem,11≤11)∧qMw [(10108024940646105089:Int),(2469829653919213789:Int),(0:Int),(4611686018427387904:Int),(32:Int),(0:Int),(10108024940646105087:Int),(18200867980676431887:Int),(7474641938123724515:Int),(9200329640471491984:Int),(679271340771891881:Int)] (eI a) (eI b) fun(P a b:Nat)=>(∀ M:Mem,0+4≤4)∧R ((eS (fM P a b))) [] else(∀ M:Mem,11≤11)∧(∀ M:Mem,11≤11)∧(∀ M:Mem,4≤4)∧R (.agg [.v (qD 0),.v (qD 0),.v (qD 0),.v (qD 0)]) []):=by kernel_rfl
theorem bFm:Try.f144.body.isSome=true:=by kernel_rfl
theorem nFm(s:Int)(a b:Nat):Nat.ble [SV.v (.int .i64 s),eS a,eS b].length Try.f144.ntmps=true:=by kernel_rfl
theorem zTa(s:Int)(a b:Nat)(ha:a<top)(hb:b<top)(Q:SV→List HO→Prop)(hq:Q (eS (fMu s a b)) []):qI Try.prog 144 [.v (.int .i64 s),eS a,eS b] [] Q:=by
 refine qJ Try.func144 bFm ?_ ?_
 ·exact nFm s a b
 refine qE hm 60 ((fmS s a b _ _).mpr ⟨?_⟩)
 simp only[zF]
 refine qH (fun h0=>?_) (fun h0=>?_)
 ·subst h0
  exact aI (aI (qBf _ a b .p ha hb ⟨fun _=>by omega,hq⟩))
 refine qH (fun h1=>?_) (fun h1=>?_)
 ·subst h1
  exact aI (aI (qBf _ a b .q ha hb ⟨fun _=>by omega,hq⟩))
 refine qH (fun h2=>?_) (fun h2=>?_)
 ·subst h2
  exact aI (aI (qBf _ a b .r ha hb ⟨fun _=>by omega,hq⟩))
 refine qH (fun h3=>?_) (fun h3=>?_)
 ·subst h3
  exact aI (aI (qBf _ a b .t ha hb ⟨fun _=>by omega,hq⟩))
 refine aI (aI (And.intro (fun _=>by omega) ?_))
 rw[fMu,if_pos (qVz h0 h1 h2 h3),qEy] at hq
 exact hq
noncomputable def gFm:List SV→List HO→Option ((SV→List HO→Prop)→Prop)
 | [.v (.int .i64 s),.agg [.v (.int .u64 a0),.v (.int .u64 a1),.v (.int .u64 a2),.v (.int .u64 a3)],.agg [.v (.int .u64 b0),.v (.int .u64 b1),.v (.int .u64 b2),.v (.int .u64 b3)]],[]=>some fun Q=>c2C [a0,a1,a2,a3] [b0,b1,b2,b3] fun a b=>Q (eS (fMu s a b)) []
 | _,_=>none
theorem zNp(args:List SV)(h:List HO)(tr:(SV→List HO→Prop)→Prop)(Q:SV→List HO→Prop)(hc:gFm args h=some tr)(ht:tr Q):qI Try.prog 144 args h Q:=by
 unfold gFm at hc
 split at hc
 ·rename_i s a0 a1 a2 a3 b0 b1 b2 b3
  simp only[sI] at hc
  subst hc
  obtain⟨a,b,e1,e2,ha,hb,hq⟩:=ht.h
  simp only[List.cons.injEq,and_true] at e1 e2
  obtain⟨rfl,rfl,rfl,rfl⟩:=e1
  obtain⟨rfl,rfl,rfl,rfl⟩:=e2
  exact zTa s a b ha hb Q hq
 ·cases hc
noncomputable def K28:Con Try.prog:=K27.add 144 gFm zNp
end Go.Proofs.Ytlmjdcbhpffanaa
/- The values of nodes. -/
namespace Go.Sx
open Go.RowKit
theorem qI.nilT{P:Program}{m:Nat}{f:FuncId}{args:List SV}{h:List HO}{Q:SV→List HO→Prop}(T:TypeId)(sz:Nat)(k:zL P m f args h fun r h'=>Q r h'∨(∃ y,r=.tup [.v (.slice none 0 0),.v y]∧h'=[]∧Q (.tup [.o 0,.v y]) [.rowc T sz 0 (.lit 1 [])])):zL P m f args h Q:=by
 intro F hF w0 e hm0 S hw
 refine(k F hF w0 e hm0 S hw).mono fun E w' hE=>?_
 obtain⟨e',r,h',hq,h2,h3,h4⟩:=hE
 rcases hq with hq | ⟨y,rfl,rfl,hq⟩
 ·exact⟨e',r,h',hq,h2,h3,h4⟩
 ·refine⟨e'.setR 0 (.slice none 0 0),.tup [.o 0,.v y],_,hq,⟨Nat.zero_lt_one,trivial,trivial⟩,?_,by rw[h4]; simp [den,qL,Env.setR]⟩
  exact h3.newRowc hF (w':=w') T sz 0 _ (.slice none 0 0) (fun _=>⟨[],World.ownsRow_nil w' 0 T sz,fun u hu=>(by cases hu),fun k hk=>by omega⟩) (fun b hb=>by cases hb) ⟨rfl,rfl,rfl,Nat.le_refl _,fun _ _ _=>rfl⟩
end Go.Sx
namespace Go.Pl
open Go.Sx
noncomputable def qFl(s:Int)(qs:List Qy)(vs out:List Nat)(x:Nd):Option Nat :=
 if x.op=1 then some x.v else if x.op=5 then some (fNg s (gE out x.a.toNat)) else if x.op=6 then some (fAd s (gE out x.a.toNat) (gE out x.b.toNat)) else if x.op=7 then some (fMu s (gE out x.a.toNat) (gE out x.b.toNat)) else if x.op=8 then some (fMu s x.v (gE out x.a.toNat))
 else if qX (yT x.op x.a x.b) 0 qs<0 then none else some (gE vs (qX (yT x.op x.a x.b) 0 qs).toNat)
noncomputable def qDi(s:Int)(qs:List Qy)(vs:List Nat):List Nat→List Nd→Option (List Nat)
 | out,[]=>some out
 | out,x::r=>match qFl s qs vs out x with
  | none=>none
  | some v=>qDi s qs vs (out++[fAd s v 0]) r
theorem qWw{s:Int}{qs:List Qy}{vs out:List Nat}{x:Nd}{r:List Nd}{v:Nat}(h:qFl s qs vs out x=some v):qDi s qs vs out (x::r)=qDi s qs vs (out++[fAd s v 0]) r:=by rw[qDi,h]
theorem qYn{s:Int}{qs:List Qy}{vs out:List Nat}{x:Nd}{r:List Nd}(h:qFl s qs vs out x=none):qDi s qs vs out (x::r)=none:=by rw[qDi,h]
noncomputable def vlR(s:Int)(qs:List Qy)(vs:List Nat)(l:List Nd):List Nat×Int :=
 if fP s=0 then([],20) else if jT 0 l=false then([],110) else if vs.length≠qs.length then([],50) else match qDi s qs vs [] l with
  | none=>([],50)
  | some out=>(out,0)
theorem zAy{α:Type}(p:α→Bool):∀(l:List α) (k:Nat),qX p k l<((k+l.length:Nat):Int)
 | [],k=>by simp only[qX]; omega
 | x::r,k=>by
  rw[qX]
  split
  ·simp; omega
  ·have:=zAy p r (k+1)
   rw[List.length_cons]
   omega
theorem zNi(s:Int)(qs:List Qy)(vs out:List Nat){x:Nd}(h:x.op=1):qFl s qs vs out x=some x.v:=by
 unfold qFl
 rw[if_pos h]
theorem zPe(s:Int)(qs:List Qy)(vs out:List Nat){x:Nd}(h:x.op=5):qFl s qs vs out x=some (fNg s (gE out x.a.toNat)):=by
 unfold qFl
 rw[if_neg (by omega),if_pos h]
theorem zOa(s:Int)(qs:List Qy)(vs out:List Nat){x:Nd}(h:x.op=6):qFl s qs vs out x=some (fAd s (gE out x.a.toNat) (gE out x.b.toNat)):=by
 unfold qFl
 rw[if_neg (by omega),if_neg (by omega),if_pos h]
theorem zNo(s:Int)(qs:List Qy)(vs out:List Nat){x:Nd}(h:x.op=7):qFl s qs vs out x=some (fMu s (gE out x.a.toNat) (gE out x.b.toNat)):=by
 unfold qFl
 rw[if_neg (by omega),if_neg (by omega),if_neg (by omega),if_pos h]
theorem zNt(s:Int)(qs:List Qy)(vs out:List Nat){x:Nd}(h:x.op=8):qFl s qs vs out x=some (fMu s x.v (gE out x.a.toNat)):=by
 unfold qFl
 rw[if_neg (by omega),if_neg (by omega),if_neg (by omega),if_neg (by omega),if_pos h]
theorem zOt(s:Int)(qs:List Qy)(vs out:List Nat){x:Nd}(h:2≤x.op∧x.op≤4):qFl s qs vs out x=if qX (yT x.op x.a x.b) 0 qs<0 then none else some (gE vs (qX (yT x.op x.a x.b) 0 qs).toNat):=by
 unfold qFl
 rw[if_neg (by omega),if_neg (by omega),if_neg (by omega),if_neg (by omega),if_neg (by omega)]
theorem qYq(s:Int):fP s=0∨2<fP s∧2*fP s<top:=by
 unfold fP
 simp only[top]
 repeat' split
 all_goals omega
theorem zBl(s:Int)(a b:Nat):fAd s a b<top:=by
 rw[fAd]
 rcases qYq s with h | h
 ·rw[if_pos h]; exact qLo
 ·rw[if_neg (by omega)]
  have:=zVr h.1 a b
  omega
theorem zBk(s:Int)(a b:Nat):fMu s a b<top:=by
 rw[fMu]
 rcases qYq s with h | h
 ·rw[if_pos h]; exact qLo
 ·rw[if_neg (by omega)]
  have:=zKk h.1 a b
  omega
theorem zIt(s:Int)(a:Nat):fNg s a<top:=by
 rw[fNg]
 rcases qYq s with h | h
 ·rw[if_pos h]; exact qLo
 ·rw[if_neg (by omega)]
  have:=zUo h.1 a
  omega
theorem wM{l:List Nat}(h:∀ v∈l,v<top)(k:Nat):gE l k<top:=by
 unfold gE
 rw[List.getD_eq_getElem?_getD]
 cases hk:l[k]? with
 | none=>exact qLo
 | some v=>exact h v (List.mem_of_getElem? hk)
theorem zGw{l:List Nd}(h:∀ x∈l,x.v<top)(k:Nat):(gN l k).v<top:=by
 unfold gN
 rw[List.getD_eq_getElem?_getD]
 cases hk:l[k]? with
 | none=>exact qLo
 | some v=>exact h v (List.mem_of_getElem? hk)
theorem qSy{l:List Nat}{k:Nat}(z:Nat)(h:l.length=k):IsC (k+1) 4 (Ct.app k (.fn (cE l)) (.lit 4 [.v (.int .u64 (qC z 0:Nat)),.v (.int .u64 (qC z 1:Nat)),.v (.int .u64 (qC z 2:Nat)),.v (.int .u64 (qC z 3:Nat))])).at (Ct.fn (cE (l++[z]))).at:=by
 subst h
 exact xY (fun(v:Nat) j=>.v (.int .u64 (qC v j:Nat))) 0 4 l z _ (fun j hj=>by
  match j,hj with
  | 0,_=>rfl
  | 1,_=>rfl
  | 2,_=>rfl
  | 3,_=>rfl)
theorem zAb(s:Int):fE s=0↔fP s≠0:=by
 rw[fE]; split <;> simp_all
theorem zSo(s:Int)(h:fP s=0):fE s=20:=by rw[fE,if_pos h]
structure vlC (n nq nv : Nat) (cn cq cv : Nat → Nat → qB) (k : List Nd → List Qy → List Nat → Prop) : Prop where
  h : ∃ (l : List Nd) (qs : List Qy) (vs : List Nat), n = l.length ∧ IsC n 7 cn (cN l) ∧ nq = qs.length ∧ IsC nq 3 cq (cQ qs) ∧ nv = vs.length ∧ IsC nv 4 cv (cE vs) ∧ l.length ≤ 4398046511104 ∧ qs.length ≤ 4398046511104 ∧ (∀ x ∈ l, x.v < top) ∧ (∀ v ∈ vs, v < top) ∧ k l qs vs
end Go.Pl
namespace Go.Proofs.Ytlmjdcbhpffanaa
open Go.Sx Go.Pl
set_option linter.unusedVariables false
set_option maxRecDepth 100000
theorem vlc(s:Int)(b2 b3:Bool)(l:List Nd)(qs:List (Int×Int×Int))(vs out:List Nat)(n nq nv k M:Nat)(K:List It→St→Prop)(R:SV→List HO→Prop):W (xwp Try.prog X K28 [(136,[]),(140,[]),(143,[]),(151,[])] 60 (qO Try.f71 [] [⟨[0,1,0,1,1,1,1,1],[0,2,3,14,47,48,49],[]⟩]) [.as 52 (.v (.iface 183 (.agg #[.int .u64 (qC (gN l k).v 0:Nat),.int .u64 (qC (gN l k).v 1:Nat),.int .u64 (qC (gN l k).v 2:Nat),.int .u64 (qC (gN l k).v 3:Nat)])))] (.at [0,0,1,0,1,1,1,1,1]::.rnd [0,0,1,0,1,1,1,1,1] M::[.blk 1,.at [1,1,1,1,1,1]]) ⟨[(0,.v (.int .i64 s)),(2,.x 0 []),(3,.x 1 []),(14,.o 2),(47,.o 3),(48,.v (.int .i64 (n:Int))),(49,.v (.int .i64 (k:Int)))],[.ext b2 (.s false 3 nq (cQ qs)),.ext b3 (.s false 4 nv (cE vs)),.rowc 56 4 k (.fn (cE out)),.rowc 173 1 n (.fn (cS l))]⟩ K R)=W (bif decide ((↑k:Int)<(↑n:Int)) then(∀ M:Mem,(0:Int)≤(↑k:Int)∧(↑k:Int)<(↑n:Int))∧(∀ M:Mem,k<n)∧(∀ M:Mem,stV (gN l k)=Value.iface 183 (Value.agg (Array.mk [qD (↑(qC (gN l k).4 0):Int),qD (↑(qC (gN l k).4 1):Int),qD (↑(qC (gN l k).4 2):Int),qD (↑(qC (gN l k).4 3):Int)])))∧(∀ M:Mem,0+4≤4)∧(∀ M:Mem,0+4≤4)∧c2C (eI (gN l k).4) [(0:Int),(0:Int),(0:Int),(0:Int)] fun(a b:Nat)=>(∀ M:Mem,(k+1)*32≤140737488355328∧k+1≤140737488355328)∧K [.rnd [0,0,1,0,1,1,1,1,1] M,.blk 1,.at [1,1,1,1,1,1]] (St.mk [(0,.v (qA s)),(2,.x 0 []),(3,.x 1 []),(14,.o 2),(47,.o 3),(48,.v (qA (↑n:Int))),(49,.v (qA (IntKind.wrap .i64 ((↑k:Int)+(1:Int)))))] [.ext b2 (.s false 3 nq (cQ qs)),.ext b3 (.s false 4 nv (cE vs)),.rowc 56 4 (k+1) (.app k (.fn (cE out)) (.lit 4 [.v (qD (↑(qC (fAd s a b) 0):Int)),.v (qD (↑(qC (fAd s a b) 1):Int)),.v (qD (↑(qC (fAd s a b) 2):Int)),.v (qD (↑(qC (fAd s a b) 3):Int))])),.rowc 173 1 n (.fn (cS l))]) else R (.tup [.o 0,.v (qA 0)]) [.rowc 56 4 k (.fn (cE out))]):=by kernel_rfl
theorem vln(s:Int)(b2 b3:Bool)(l:List Nd)(qs:List (Int×Int×Int))(vs out:List Nat)(n nq nv k M:Nat)(K:List It→St→Prop)(R:SV→List HO→Prop):W (xwp Try.prog X K28 [(136,[]),(140,[]),(143,[]),(151,[])] 60 (qO Try.f71 [] [⟨[0,1,0,1,1,1,1,1],[0,2,3,14,47,48,49],[]⟩]) [.as 52 (.v (.iface 204 (.agg #[.int .i64 (gN l k).a])))] (.at [0,0,1,0,1,1,1,1,1]::.rnd [0,0,1,0,1,1,1,1,1] M::[.blk 1,.at [1,1,1,1,1,1]]) ⟨[(0,.v (.int .i64 s)),(2,.x 0 []),(3,.x 1 []),(14,.o 2),(47,.o 3),(48,.v (.int .i64 (n:Int))),(49,.v (.int .i64 (k:Int)))],[.ext b2 (.s false 3 nq (cQ qs)),.ext b3 (.s false 4 nv (cE vs)),.rowc 56 4 k (.fn (cE out)),.rowc 173 1 n (.fn (cS l))]⟩ K R)=W (bif decide ((↑k:Int)<(↑n:Int)) then(∀ M:Mem,(0:Int)≤(↑k:Int)∧(↑k:Int)<(↑n:Int))∧(∀ M:Mem,k<n)∧(∀ M:Mem,stV (gN l k)=Value.iface 204 (Value.agg (Array.mk [qA (gN l k).2])))∧(∀ M:Mem,(0:Int)≤(gN l k).2∧(gN l k).2<(↑k:Int))∧(∀ M:Mem,Int.toNat (gN l k).2<k)∧c1C (eI (gE out (Int.toNat (gN l k).2))) fun(a:Nat)=>(∀ M:Mem,0+4≤4)∧(∀ M:Mem,0+4≤4)∧c2C (eI (fNg s a)) [(0:Int),(0:Int),(0:Int),(0:Int)] fun(a b:Nat)=>(∀ M:Mem,(k+1)*32≤140737488355328∧k+1≤140737488355328)∧K [.rnd [0,0,1,0,1,1,1,1,1] M,.blk 1,.at [1,1,1,1,1,1]] (St.mk [(0,.v (qA s)),(2,.x 0 []),(3,.x 1 []),(14,.o 2),(47,.o 3),(48,.v (qA (↑n:Int))),(49,.v (qA (IntKind.wrap .i64 ((↑k:Int)+(1:Int)))))] [.ext b2 (.s false 3 nq (cQ qs)),.ext b3 (.s false 4 nv (cE vs)),.rowc 56 4 (k+1) (.app k (.fn (cE out)) (.lit 4 [.v (qD (↑(qC (fAd s a b) 0):Int)),.v (qD (↑(qC (fAd s a b) 1):Int)),.v (qD (↑(qC (fAd s a b) 2):Int)),.v (qD (↑(qC (fAd s a b) 3):Int))])),.rowc 173 1 n (.fn (cS l))]) else R (.tup [.o 0,.v (qA 0)]) [.rowc 56 4 k (.fn (cE out))]):=by kernel_rfl
theorem vla(s:Int)(b2 b3:Bool)(l:List Nd)(qs:List (Int×Int×Int))(vs out:List Nat)(n nq nv k M:Nat)(K:List It→St→Prop)(R:SV→List HO→Prop):W (xwp Try.prog X K28 [(136,[]),(140,[]),(143,[]),(151,[])] 60 (qO Try.f71 [] [⟨[0,1,0,1,1,1,1,1],[0,2,3,14,47,48,49],[]⟩]) [.as 52 (.v (.iface 206 (.agg #[.int .i64 (gN l k).a,.int .i64 (gN l k).b])))] (.at [0,0,1,0,1,1,1,1,1]::.rnd [0,0,1,0,1,1,1,1,1] M::[.blk 1,.at [1,1,1,1,1,1]]) ⟨[(0,.v (.int .i64 s)),(2,.x 0 []),(3,.x 1 []),(14,.o 2),(47,.o 3),(48,.v (.int .i64 (n:Int))),(49,.v (.int .i64 (k:Int)))],[.ext b2 (.s false 3 nq (cQ qs)),.ext b3 (.s false 4 nv (cE vs)),.rowc 56 4 k (.fn (cE out)),.rowc 173 1 n (.fn (cS l))]⟩ K R)=W (bif decide ((↑k:Int)<(↑n:Int)) then(∀ M:Mem,(0:Int)≤(↑k:Int)∧(↑k:Int)<(↑n:Int))∧(∀ M:Mem,k<n)∧(∀ M:Mem,stV (gN l k)=Value.iface 206 (Value.agg (Array.mk [qA (gN l k).2,qA (gN l k).3])))∧(∀ M:Mem,(0:Int)≤(gN l k).2∧(gN l k).2<(↑k:Int))∧(∀ M:Mem,Int.toNat (gN l k).2<k)∧(∀ M:Mem,(0:Int)≤(gN l k).3∧(gN l k).3<(↑k:Int))∧(∀ M:Mem,Int.toNat (gN l k).3<k)∧c2C (eI (gE out (Int.toNat (gN l k).2))) (eI (gE out (Int.toNat (gN l k).3))) fun(a b:Nat)=>(∀ M:Mem,0+4≤4)∧(∀ M:Mem,0+4≤4)∧c2C (eI (fAd s a b)) [(0:Int),(0:Int),(0:Int),(0:Int)] fun(a b:Nat)=>(∀ M:Mem,(k+1)*32≤140737488355328∧k+1≤140737488355328)∧K [.rnd [0,0,1,0,1,1,1,1,1] M,.blk 1,.at [1,1,1,1,1,1]] (St.mk [(0,.v (qA s)),(2,.x 0 []),(3,.x 1 []),(14,.o 2),(47,.o 3),(48,.v (qA (↑n:Int))),(49,.v (qA (IntKind.wrap .i64 ((↑k:Int)+(1:Int)))))] [.ext b2 (.s false 3 nq (cQ qs)),.ext b3 (.s false 4 nv (cE vs)),.rowc 56 4 (k+1) (.app k (.fn (cE out)) (.lit 4 [.v (qD (↑(qC (fAd s a b) 0):Int)),.v (qD (↑(qC (fAd s a b) 1):Int)),.v (qD (↑(qC (fAd s a b) 2):Int)),.v (qD (↑(qC (fAd s a b) 3):Int))])),.rowc 173 1 n (.fn (cS l))]) else R (.tup [.o 0,.v (qA 0)]) [.rowc 56 4 k (.fn (cE out))]):=by kernel_rfl
theorem vlm(s:Int)(b2 b3:Bool)(l:List Nd)(qs:List (Int×Int×Int))(vs out:List Nat)(n nq nv k M:Nat)(K:List It→St→Prop)(R:SV→List HO→Prop):W (xwp Try.prog X K28 [(136,[]),(140,[]),(143,[]),(151,[])] 60 (qO Try.f71 [] [⟨[0,1,0,1,1,1,1,1],[0,2,3,14,47,48,49],[]⟩]) [.as 52 (.v (.iface 207 (.agg #[.int .i64 (gN l k).a,.int .i64 (gN l k).b])))] (.at [0,0,1,0,1,1,1,1,1]::.rnd [0,0,1,0,1,1,1,1,1] M::[.blk 1,.at [1,1,1,1,1,1]]) ⟨[(0,.v (.int .i64 s)),(2,.x 0 []),(3,.x 1 []),(14,.o 2),(47,.o 3),(48,.v (.int .i64 (n:Int))),(49,.v (.int .i64 (k:Int)))],[.ext b2 (.s false 3 nq (cQ qs)),.ext b3 (.s false 4 nv (cE vs)),.rowc 56 4 k (.fn (cE out)),.rowc 173 1 n (.fn (cS l))]⟩ K R)=W (bif decide ((↑k:Int)<(↑n:Int)) then(∀ M:Mem,(0:Int)≤(↑k:Int)∧(↑k:Int)<(↑n:Int))∧(∀ M:Mem,k<n)∧(∀ M:Mem,stV (gN l k)=Value.iface 207 (Value.agg (Array.mk [qA (gN l k).2,qA (gN l k).3])))∧(∀ M:Mem,(0:Int)≤(gN l k).2∧(gN l k).2<(↑k:Int))∧(∀ M:Mem,Int.toNat (gN l k).2<k)∧(∀ M:Mem,(0:Int)≤(gN l k).3∧(gN l k).3<(↑k:Int))∧(∀ M:Mem,Int.toNat (gN l k).3<k)∧c2C (eI (gE out (Int.toNat (gN l k).2))) (eI (gE out (Int.toNat (gN l k).3))) fun(a b:Nat)=>(∀ M:Mem,0+4≤4)∧(∀ M:Mem,0+4≤4)∧c2C (eI (fMu s a b)) [(0:Int),(0:Int),(0:Int),(0:Int)] fun(a b:Nat)=>(∀ M:Mem,(k+1)*32≤140737488355328∧k+1≤140737488355328)∧K [.rnd [0,0,1,0,1,1,1,1,1] M,.blk 1,.at [1,1,1,1,1,1]] (St.mk [(0,.v (qA s)),(2,.x 0 []),(3,.x 1 []),(14,.o 2),(47,.o 3),(48,.v (qA (↑n:Int))),(49,.v (qA (IntKind.wrap .i64 ((↑k:Int)+(1:Int)))))] [.ext b2 (.s false 3 nq (cQ qs)),.ext b3 (.s false 4 nv (cE vs)),.rowc 56 4 (k+1) (.app k (.fn (cE out)) (.lit 4 [.v (qD (↑(qC (fAd s a b) 0):Int)),.v (qD (↑(qC (fAd s a b) 1):Int)),.v (qD (↑(qC (fAd s a b) 2):Int)),.v (qD (↑(qC (fAd s a b) 3):Int))])),.rowc 173 1 n (.fn (cS l))]) else R (.tup [.o 0,.v (qA 0)]) [.rowc 56 4 k (.fn (cE out))]):=by kernel_rfl
theorem vls(s:Int)(b2 b3:Bool)(l:List Nd)(qs:List (Int×Int×Int))(vs out:List Nat)(n nq nv k M:Nat)(K:List It→St→Prop)(R:SV→List HO→Prop):W (xwp Try.prog X K28 [(136,[]),(140,[]),(143,[]),(151,[])] 60 (qO Try.f71 [] [⟨[0,1,0,1,1,1,1,1],[0,2,3,14,47,48,49],[]⟩]) [.as 52 (.v (.iface 209 (.agg #[.int .i64 (gN l k).a,.int .u64 (qC (gN l k).v 0:Nat),.int .u64 (qC (gN l k).v 1:Nat),.int .u64 (qC (gN l k).v 2:Nat),.int .u64 (qC (gN l k).v 3:Nat)])))] (.at [0,0,1,0,1,1,1,1,1]::.rnd [0,0,1,0,1,1,1,1,1] M::[.blk 1,.at [1,1,1,1,1,1]]) ⟨[(0,.v (.int .i64 s)),(2,.x 0 []),(3,.x 1 []),(14,.o 2),(47,.o 3),(48,.v (.int .i64 (n:Int))),(49,.v (.int .i64 (k:Int)))],[.ext b2 (.s false 3 nq (cQ qs)),.ext b3 (.s false 4 nv (cE vs)),.rowc 56 4 k (.fn (cE out)),.rowc 173 1 n (.fn (cS l))]⟩ K R)=W (bif decide ((↑k:Int)<(↑n:Int)) then(∀ M:Mem,(0:Int)≤(↑k:Int)∧(↑k:Int)<(↑n:Int))∧(∀ M:Mem,k<n)∧(∀ M:Mem,stV (gN l k)=Value.iface 209 (Value.agg (Array.mk [qA (gN l k).2,qD (↑(qC (gN l k).4 0):Int),qD (↑(qC (gN l k).4 1):Int),qD (↑(qC (gN l k).4 2):Int),qD (↑(qC (gN l k).4 3):Int)])))∧(∀ M:Mem,(0:Int)≤(gN l k).2∧(gN l k).2<(↑k:Int))∧(∀ M:Mem,Int.toNat (gN l k).2<k)∧c2C (eI (gN l k).4) (eI (gE out (Int.toNat (gN l k).2))) fun(a b:Nat)=>(∀ M:Mem,0+4≤4)∧(∀ M:Mem,0+4≤4)∧c2C (eI (fMu s a b)) [(0:Int),(0:Int),(0:Int),(0:Int)] fun(a b:Nat)=>(∀ M:Mem,(k+1)*32≤140737488355328∧k+1≤140737488355328)∧K [.rnd [0,0,1,0,1,1,1,1,1] M,.blk 1,.at [1,1,1,1,1,1]] (St.mk [(0,.v (qA s)),(2,.x 0 []),(3,.x 1 []),(14,.o 2),(47,.o 3),(48,.v (qA (↑n:Int))),(49,.v (qA (IntKind.wrap .i64 ((↑k:Int)+(1:Int)))))] [.ext b2 (.s false 3 nq (cQ qs)),.ext b3 (.s false 4 nv (cE vs)),.rowc 56 4 (k+1) (.app k (.fn (cE out)) (.lit 4 [.v (qD (↑(qC (fAd s a b) 0):Int)),.v (qD (↑(qC (fAd s a b) 1):Int)),.v (qD (↑(qC (fAd s a b) 2):Int)),.v (qD (↑(qC (fAd s a b) 3):Int))])),.rowc 173 1 n (.fn (cS l))]) else R (.tup [.o 0,.v (qA 0)]) [.rowc 56 4 k (.fn (cE out))]):=by kernel_rfl
theorem vlq(s:Int)(b2 b3:Bool)(l:List Nd)(qs:List (Int×Int×Int))(vs out:List Nat)(n nq nv k M:Nat)(K:List It→St→Prop)(R:SV→List HO→Prop):W (xwp Try.prog X K28 [(136,[]),(140,[]),(143,[]),(151,[])] 60 (qO Try.f71 [] [⟨[0,1,0,1,1,1,1,1],[0,2,3,14,47,48,49],[]⟩]) [.as 52 (.v (.iface 176 (.agg #[.int .i64 (gN l k).op,.int .i64 (gN l k).a,.int .i64 (gN l k).b])))] (.at [0,0,1,0,1,1,1,1,1]::.rnd [0,0,1,0,1,1,1,1,1] M::[.blk 1,.at [1,1,1,1,1,1]]) ⟨[(0,.v (.int .i64 s)),(2,.x 0 []),(3,.x 1 []),(14,.o 2),(47,.o 3),(48,.v (.int .i64 (n:Int))),(49,.v (.int .i64 (k:Int)))],[.ext b2 (.s false 3 nq (cQ qs)),.ext b3 (.s false 4 nv (cE vs)),.rowc 56 4 k (.fn (cE out)),.rowc 173 1 n (.fn (cS l))]⟩ K R)=W (bif decide ((↑k:Int)<(↑n:Int)) then(∀ M:Mem,(0:Int)≤(↑k:Int)∧(↑k:Int)<(↑n:Int))∧(∀ M:Mem,k<n)∧(∀ M:Mem,stV (gN l k)=Value.iface 176 (Value.agg (Array.mk [qA (gN l k).1,qA (gN l k).2,qA (gN l k).3])))∧(∀ M:Mem,0+3≤3)∧∃(l_1:List (Int×Int×Int)),nq=List.length l_1∧IsC nq 3 (cQ qs) (cQ l_1)∧List.length l_1≤4398046511104∧bif decide (qX (yT (gN l k).1 (gN l k).2 (gN l k).3) 0 l_1<(0:Int)) then R (.tup [.v (Value.slice none 0 0),.v (qA 50)]) [] else(∀ M:Mem,(0:Int)≤qX (yT (gN l k).1 (gN l k).2 (gN l k).3) 0 l_1∧qX (yT (gN l k).1 (gN l k).2 (gN l k).3) 0 l_1<(↑nv:Int))∧(∀ M:Mem,Int.toNat (qX (yT (gN l k).1 (gN l k).2 (gN l k).3) 0 l_1)<nv)∧(∀ M:Mem,0+4≤4)∧c2C (eI (gE vs (Int.toNat (qX (yT (gN l k).1 (gN l k).2 (gN l k).3) 0 l_1)))) [(0:Int),(0:Int),(0:Int),(0:Int)] fun(a b:Nat)=>(∀ M:Mem,(k+1)*32≤140737488355328∧k+1≤140737488355328)∧K [.rnd [0,0,1,0,1,1,1,1,1] M,.blk 1,.at [1,1,1,1,1,1]] (St.mk [(0,.v (qA s)),(2,.x 0 []),(3,.x 1 []),(14,.o 2),(47,.o 3),(48,.v (qA (↑n:Int))),(49,.v (qA (IntKind.wrap .i64 ((↑k:Int)+(1:Int)))))] [.ext b2 (.s false 3 nq (cQ qs)),.ext b3 (.s false 4 nv (cE vs)),.rowc 56 4 (k+1) (.app k (.fn (cE out)) (.lit 4 [.v (qD (↑(qC (fAd s a b) 0):Int)),.v (qD (↑(qC (fAd s a b) 1):Int)),.v (qD (↑(qC (fAd s a b) 2):Int)),.v (qD (↑(qC (fAd s a b) 3):Int))])),.rowc 173 1 n (.fn (cS l))]) else R (.tup [.o 0,.v (qA 0)]) [.rowc 56 4 k (.fn (cE out))]):=by kernel_rfl
theorem vlS(s:Int)(b1 b2 b3:Bool)(l:List Nd)(qs:List (Int×Int×Int))(vs:List Nat)(K:List It→St→Prop)(R:SV→List HO→Prop):W (xwp Try.prog X K28 [(136,[]),(140,[]),(143,[]),(151,[])] 60 (qO Try.f71 [] [⟨[0,1,0,1,1,1,1,1],[0,2,3,14,47,48,49],[]⟩]) [] [.at []] ⟨qQ 0 [.v (.int .i64 s),.x 0 [],.x 1 [],.x 2 []],[.ext b1 (.s false 7 l.length (cN l)),.ext b2 (.s false 3 qs.length (cQ qs)),.ext b3 (.s false 4 vs.length (cE vs))]⟩ K R)=W ((∀ M:Mem,0+4≤4)∧bif !fE s==(0:Int) then R (.tup [.v (Value.slice none 0 0),.v (qA (fE s))]) [] else ∃(l_1:List Nd),List.length l=List.length l_1∧IsC l.length 7 (cN l) (cN l_1)∧List.length l_1≤4398046511104∧bif jT 0 l_1 then bif !(↑vs.length:Int)==(↑qs.length:Int) then R (.tup [.v (Value.slice none 0 0),.v (qA 50)]) [] else(∀ M:Mem,(0:Int)≤(0:Int)∧(0:Int)≤(↑l.length:Int)∧(32:Int)*(↑l.length:Int)≤(281474976710656:Int)∧(↑l.length:Int)≤(9223372036854775807:Int))∧K [.at [0,1,0,1,1,1,1,1],.blk 1,.at [1,1,1,1,1,1]] (St.mk [(0,.v (qA s)),(2,.x 0 []),(3,.x 1 []),(14,.o 2),(47,.o 3),(48,.v (qA (↑l.length:Int))),(49,.v (qA 0))] [.ext b2 (.s false 3 qs.length (cQ qs)),.ext b3 (.s false 4 vs.length (cE vs)),.rowc 56 4 0 (Ct.zero [qD 0,qD 0,qD 0,qD 0]),.rowc 173 1 l.length (.fn (cS l_1))]) else R (.tup [.v (Value.slice none 0 0),.v (qA 110)]) []):=by kernel_rfl
theorem zBg(s:Int)(b2 b3:Bool)(all:List Nd)(qs:List (Int×Int×Int))(vs:List Nat)(hb:all.length≤4398046511104)(hbq:qs.length≤4398046511104)(ho:jT 0 all=true)(hl:vs.length=qs.length)(ht:∀ x∈all,x.v<top)(hv:∀ v∈vs,v<top)(Q:SV→List HO→Prop)(hq:∀ out,qDi s qs vs [] all=some out→Q (.tup [.o 0,.v (.int .i64 0)]) [.rowc 56 4 out.length (.fn (cE out))])(hn:qDi s qs vs [] all=none→Q (.tup [.v (.slice none 0 0),.v (.int .i64 50)]) []):
  ∀(d k:Nat) (out:List Nat),k+d=all.length→out.length=k→(∀ z∈out,z<top)→qDi s qs vs [] all=qDi s qs vs out (all.drop k) →
  FOk Try.prog Try.f71 Q (.rnd [0,0,1,0,1,1,1,1,1] (d+1)::[.blk 1,.at [1,1,1,1,1,1]]) ⟨[(0,.v (.int .i64 s)),(2,.x 0 []),(3,.x 1 []),(14,.o 2),(47,.o 3),(48,.v (.int .i64 ((all.length:Nat):Int))),(49,.v (.int .i64 (k:Int)))],[.ext b2 (.s false 3 qs.length (cQ qs)),.ext b3 (.s false 4 vs.length (cE vs)),.rowc 56 4 k (.fn (cE out)),.rowc 173 1 all.length (.fn (cS all))]⟩
 | 0,k,out,hd,hk,hz,he=>by
  refine FOk.rnd (qE hm 60 ((vlc s b2 b3 all qs vs out all.length qs.length vs.length k 0 _ _).mpr ⟨?_⟩))
  simp only[qF]
  rw[if_neg (by omega)]
  rw[show k=all.length by omega,List.drop_length,qDi] at he
  have:=hq out he
  rw[hk] at this
  exact this
 | d+1,k,out,hd,hk,hz,he=>by
  have hka:k<all.length:=by omega
  rw[qGn hka] at he
  have hop:=qHf all 0 ho _ (qSu hka)
  have hus:=qKd k (gN all k)
  have hok:okN k (gN all k)=true:=qHj ho k (gN all k) (by rw[gN,List.getD_eq_getElem?_getD,List.getElem?_eq_getElem hka]; rfl)
  rw[hok] at hus
  have hus:=hus.1 rfl
  have yes:∀ z,qFl s qs vs out (gN all k)=some z→FOk Try.prog Try.f71 Q (.rnd [0,0,1,0,1,1,1,1,1] (d+1)::[.blk 1,.at [1,1,1,1,1,1]]) ⟨[(0,.v (.int .i64 s)),(2,.x 0 []),(3,.x 1 []),(14,.o 2),(47,.o 3),(48,.v (.int .i64 ((all.length:Nat):Int))),(49,.v (.int .i64 (IntKind.wrap .i64 ((k:Int)+1))))],[.ext b2 (.s false 3 qs.length (cQ qs)),.ext b3 (.s false 4 vs.length (cE vs)),.rowc 56 4 (k+1) (.app k (.fn (cE out)) (.lit 4 [.v (.int .u64 (qC (fAd s z 0) 0:Nat)),.v (.int .u64 (qC (fAd s z 0) 1:Nat)),.v (.int .u64 (qC (fAd s z 0) 2:Nat)),.v (.int .u64 (qC (fAd s z 0) 3:Nat))])),.rowc 173 1 all.length (.fn (cS all))]⟩:=fun z hz'=>by
   rw[qN _ (by omega)]
   rw[qWw hz'] at he
   refine FOk.cv (zBg s b2 b3 all qs vs hb hbq ho hl ht hv Q hq hn d (k+1) (out++[fAd s z 0]) (by omega) (by simp [hk]) (fun y hy=>?_) he) ⟨HE.refl _,HE.refl _,⟨rfl,rfl,rfl,qSy _ hk⟩,HE.refl _,trivial⟩
   rcases List.mem_append.1 hy with h | h
   ·exact hz y h
   ·rw[List.mem_singleton] at h; rw[h]; exact zBl s z 0
  by_cases h:(gN all k).op=1
  ·refine FOk.rnd (qE hm 60 ((vlc s b2 b3 all qs vs out all.length qs.length vs.length k (d+1) _ _).mpr ⟨?_⟩))
   simp only[qF,← qAe]
   rw[if_pos (by omega)]
   refine aI (aI (And.intro (fun _=>qUr h) ?_))
   refine aI (aI (wD _ 0 (zGw ht k) qLo ?_))
   exact aI (yes _ (zNi s qs vs out h))
  by_cases h:(gN all k).op=5
  ·refine FOk.rnd (qE hm 60 ((vln s b2 b3 all qs vs out all.length qs.length vs.length k (d+1) _ _).mpr ⟨?_⟩))
   simp only[qF,← qAe]
   rw[if_pos (by omega)]
   refine aI (aI (And.intro (fun _=>qVh h) ?_))
   refine aI (aI (zOl _ (wM hz _) (aI (aI (wD _ 0 (zIt _ _) qLo ?_)))))
   exact aI (yes _ (zPe s qs vs out h))
  by_cases h:(gN all k).op=6
  ·refine FOk.rnd (qE hm 60 ((vla s b2 b3 all qs vs out all.length qs.length vs.length k (d+1) _ _).mpr ⟨?_⟩))
   simp only[qF,← qAe]
   rw[if_pos (by omega)]
   refine aI (aI (And.intro (fun _=>qUc h) ?_))
   refine aI (aI (aI (aI (wD _ _ (wM hz _) (wM hz _) (aI (aI (wD _ 0 (zBl _ _ _) qLo ?_)))))))
   exact aI (yes _ (zOa s qs vs out h))
  by_cases h:(gN all k).op=7
  ·refine FOk.rnd (qE hm 60 ((vlm s b2 b3 all qs vs out all.length qs.length vs.length k (d+1) _ _).mpr ⟨?_⟩))
   simp only[qF,← qAe]
   rw[if_pos (by omega)]
   refine aI (aI (And.intro (fun _=>qWm h) ?_))
   refine aI (aI (aI (aI (wD _ _ (wM hz _) (wM hz _) (aI (aI (wD _ 0 (zBk _ _ _) qLo ?_)))))))
   exact aI (yes _ (zNo s qs vs out h))
  by_cases h:(gN all k).op=8
  ·refine FOk.rnd (qE hm 60 ((vls s b2 b3 all qs vs out all.length qs.length vs.length k (d+1) _ _).mpr ⟨?_⟩))
   simp only[qF,← qAe]
   rw[if_pos (by omega)]
   refine aI (aI (And.intro (fun _=>qVj h) ?_))
   refine aI (aI (wD _ _ (zGw ht k) (wM hz _) (aI (aI (wD _ 0 (zBk _ _ _) qLo ?_)))))
   exact aI (yes _ (zNt s qs vs out h))
  by_cases h:2≤(gN all k).op∧(gN all k).op≤4
  ·refine FOk.rnd (qE hm 60 ((vlq s b2 b3 all qs vs out all.length qs.length vs.length k (d+1) _ _).mpr ⟨?_⟩))
   simp only[qF,← qAe]
   rw[if_pos (by omega)]
   refine aI (aI (And.intro (fun _=>qMq h) ?_))
   have hD:=zOt s qs vs out h
   have hlt:=zAy (yT (gN all k).op (gN all k).a (gN all k).b) qs 0
   refine And.intro (fun _=>by omega) ⟨qs,rfl,IsC.refl _ _ _,hbq,qH (fun hi=>?_) (fun hi=>?_)⟩
   ·rw[if_pos hi] at hD
    rw[qYn hD] at he
    exact hn he
   ·rw[if_neg hi] at hD
    refine aI (aI (aI (wD _ 0 (wM hv _) qLo ?_)))
    exact aI (yes _ hD)
  omega
theorem bVl:Try.f71.body.isSome=true:=by kernel_rfl
theorem nVl(s:Int):Nat.ble [SV.v (.int .i64 s),.x 0 [],.x 1 [],.x 2 []].length Try.f71.ntmps=true:=by kernel_rfl
theorem zCk(s:Int)(b1 b2 b3:Bool)(l:List Nd)(qs:List (Int×Int×Int))(vs:List Nat)(hb:l.length≤4398046511104)(hbq:qs.length≤4398046511104)(ht:∀ x∈l,x.v<top)(hv:∀ v∈vs,v<top)(Q:SV→List HO→Prop)(hq:Q (.tup [.o 0,.v (.int .i64 (vlR s qs vs l).2)]) [.rowc 56 4 (vlR s qs vs l).1.length (.fn (cE (vlR s qs vs l).1))]):qI Try.prog 71 [.v (.int .i64 s),.x 0 [],.x 1 [],.x 2 []] [.ext b1 (.s false 7 l.length (cN l)),.ext b2 (.s false 3 qs.length (cQ qs)),.ext b3 (.s false 4 vs.length (cE vs))] Q:=by
 refine qI.mono (qI.eqv (r0:=.tup [.o 0,.v (.int .i64 (vlR s qs vs l).2)]) (h0:=[.rowc 56 4 (vlR s qs vs l).1.length (.fn (cE (vlR s qs vs l).1))]) ?_) (fun r h' hh=>by rw[hh.1,hh.2]; exact hq)
 refine qI.nilT 56 4 (qJ Try.func71 bVl ?_ ?_)
 ·exact nVl s
 refine qE hm 60 ((vlS s b1 b2 b3 l qs vs _ _).mpr ⟨?_⟩)
 refine And.intro (fun _=>by omega) ?_
 have bad:∀ e:Int,vlR s qs vs l=([],e)→(fun r h'=>(r=SV.tup [.o 0,.v (.int .i64 (vlR s qs vs l).2)]∧HEs h' [.rowc 56 4 (vlR s qs vs l).1.length (.fn (cE (vlR s qs vs l).1))])∨(∃ y,r=.tup [.v (.slice none 0 0),.v y]∧h'=[]∧(SV.tup [.o 0,.v y]=SV.tup [.o 0,.v (.int .i64 (vlR s qs vs l).2)]∧HEs [HO.rowc 56 4 0 (.lit 1 [])] [.rowc 56 4 (vlR s qs vs l).1.length (.fn (cE (vlR s qs vs l).1))]))) (SV.tup [SV.v (Value.slice none 0 0),SV.v (qA e)]) []:=fun e he=>by
  rw[he]
  exact .inr ⟨_,rfl,rfl,rfl,⟨rfl,rfl,rfl,fun k hk=>by omega⟩,trivial⟩
 rw[zC,zF]
 refine qH (fun h0=>?_) (fun h0=>?_)
 ·rw[zAb] at h0
  refine⟨l,rfl,IsC.refl _ _ _,hb,qK (fun ho=>?_) (fun ho=>?_)⟩
  ·rw[zC,zF]
   refine qH (fun hl=>?_) (fun hl=>?_)
   ·have hl:vs.length=qs.length:=by omega
    refine aI (FOk.loop (l.length+1) (by kernel_rfl) (FOk.cv (zBg s b2 b3 l qs vs hb hbq ho hl ht hv _ (fun out hout=>?_) (fun hnone=>?_) l.length 0 [] (by omega) rfl (by simp) rfl) ⟨HE.refl _,HE.refl _,⟨rfl,rfl,rfl,fun k hk=>by omega⟩,HE.refl _,trivial⟩))
    ·have e:vlR s qs vs l=(out,0):=by rw[vlR,if_neg h0,if_neg (by rw[ho]; simp),if_neg (by omega),hout]
     rw[e]
     exact .inl ⟨rfl,HEs.refl _⟩
    ·exact bad 50 (by rw[vlR,if_neg h0,if_neg (by rw[ho]; simp),if_neg (by omega),hnone])
   ·exact bad 50 (by rw[vlR,if_neg h0,if_neg (by rw[ho]; simp),if_pos (by omega)])
  ·exact bad 110 (by rw[vlR,if_neg h0,if_pos ho])
 ·have h0:fP s=0:=by
   by_cases h:fP s=0
   ·exact h
   ·exact absurd ((zAb s).2 h) h0
  rw[zSo s h0]
  exact bad 20 (by rw[vlR,if_pos h0])
noncomputable def gVl:List SV→List HO→Option ((SV→List HO→Prop)→Prop)
 | [.v (.int .i64 s),.x 0 [],.x 1 [],.x 2 []],[.ext _ (.s false 7 n cn),.ext _ (.s false 3 nq cq),.ext _ (.s false 4 nv cv)]=>some fun Q=>vlC n nq nv cn cq cv fun l qs vs=>Q (.tup [.o 0,.v (.int .i64 (vlR s qs vs l).2)]) [.rowc 56 4 (vlR s qs vs l).1.length (.fn (cE (vlR s qs vs l).1))]
 | _,_=>none
theorem zMo(args:List SV)(h:List HO)(tr:(SV→List HO→Prop)→Prop)(Q:SV→List HO→Prop)(hc:gVl args h=some tr)(ht:tr Q):qI Try.prog 71 args h Q:=by
 unfold gVl at hc
 split at hc
 ·rename_i s b1 n cn b2 nq cq b3 nv cv
  simp only[sI] at hc
  subst hc
  obtain⟨l,qs,vs,rfl,h1,rfl,h2,rfl,h3,hb,hbq,hx,hv,hq⟩:=ht.h
  exact qI.ac (zCk s b1 b2 b3 l qs vs hb hbq hx hv Q hq) ⟨⟨rfl,rfl,rfl,rfl,h1⟩,⟨rfl,rfl,rfl,rfl,h2⟩,⟨rfl,rfl,rfl,rfl,h3⟩,trivial⟩
 ·cases hc
noncomputable def K29:Con Try.prog:=K28.add 71 gVl zMo
end Go.Proofs.Ytlmjdcbhpffanaa
/- Lists of elements: compared, copied. -/
namespace Go.Pl
open Go.Sx
theorem zQy{l l2:List Nat}(h:l.length=l2.length)(e:∀ k,k<l.length→gE l k=gE l2 k):l=l2 :=
 List.ext_getElem h fun k hk hk2=>by have:=e k hk; simpa only[gE,List.getD_eq_getElem?_getD,List.getElem?_eq_getElem hk,List.getElem?_eq_getElem hk2,Option.getD_some] using this
theorem zEg{a b:Nat}(ha:a<top)(hb:b<top)(h:eI a=eI b):a=b:=by
 simp only[eI,List.cons.injEq,and_true] at h
 exact qUh ha hb (by omega) (by omega) (by omega) (by omega)
structure lE (n : Nat) (c : Nat → Nat → qB) (k : List Nat → Prop) : Prop where
  h : ∃ l : List Nat, n = l.length ∧ IsC n 4 c (cE l) ∧ l.length ≤ 4398046511104 ∧ (∀ v ∈ l, v < top) ∧ k l
structure lE2 (n n2 : Nat) (c c2 : Nat → Nat → qB) (k : List Nat → List Nat → Prop) : Prop where
  h : ∃ l l2 : List Nat, n = l.length ∧ IsC n 4 c (cE l) ∧ n2 = l2.length ∧ IsC n2 4 c2 (cE l2) ∧ l.length ≤ 4398046511104 ∧ (∀ v ∈ l, v < top) ∧ (∀ v ∈ l2, v < top) ∧ k l l2
end Go.Pl
namespace Go.Proofs.Ytlmjdcbhpffanaa
open Go.Sx Go.Pl
set_option linter.unusedVariables false
set_option maxRecDepth 100000
theorem seR(b b2:Bool)(l l2:List Nat)(n n2 k M:Nat)(K:List It→St→Prop)(R:SV→List HO→Prop):W (xwp Try.prog X K29 [] 60 (qO Try.f42 [] [⟨[0,1,0,1,1],[5,4,0,1],[]⟩]) [] (.at [0,0,1,0,1,1]::.rnd [0,0,1,0,1,1] M::[.blk 0,.at [1,1,1]]) ⟨[(5,.v (.int .i64 (k:Int))),(4,.v (.bool false)),(0,.x 0 []),(1,.x 1 [])],[.ext b (.s false 4 n (cE l)),.ext b2 (.s false 4 n2 (cE l2))]⟩ K R)=W (bif decide ((↑k:Int)<(↑n:Int)) then(∀ M:Mem,(0:Int)≤(↑k:Int)∧(↑k:Int)<(↑n:Int))∧(∀ M:Mem,k<n)∧(∀ M:Mem,(0:Int)≤(↑k:Int)∧(↑k:Int)<(↑n2:Int))∧(∀ M:Mem,k<n2)∧bif !decide ((eI (gE l k))=(eI (gE l2 k))) then R (.v (.bool false)) [] else K [.rnd [0,0,1,0,1,1] M,.blk 0,.at [1,1,1]] (St.mk [(5,.v (qA (IntKind.wrap .i64 ((↑k:Int)+(1:Int))))),(4,.v (.bool false)),(0,.x 0 []),(1,.x 1 [])] [.ext b (.s false 4 n (cE l)),.ext b2 (.s false 4 n2 (cE l2))]) else R (.v (.bool true)) []):=by kernel_rfl
theorem seS(b b2:Bool)(l l2:List Nat)(n n2:Nat)(K:List It→St→Prop)(R:SV→List HO→Prop):W (xwp Try.prog X K29 [] 60 (qO Try.f42 [] [⟨[0,1,0,1,1],[5,4,0,1],[]⟩]) [] [.at []] ⟨qQ 0 [.x 0 [],.x 1 []],[.ext b (.s false 4 n (cE l)),.ext b2 (.s false 4 n2 (cE l2))]⟩ K R)=W (bif !(↑n:Int)==(↑n2:Int) then R (.v (.bool false)) [] else K [.at [0,1,0,1,1],.blk 0,.at [1,1,1]] (St.mk [(5,.v (qA 0)),(4,.v (.bool false)),(0,.x 0 []),(1,.x 1 [])] [.ext b (.s false 4 n (cE l)),.ext b2 (.s false 4 n2 (cE l2))])):=by kernel_rfl
theorem ceS(l:List Nat)(K:List It→St→Prop)(R:SV→List HO→Prop):W (xwp Try.prog X K29 [] 60 (qO Try.f36 [] []) [] [.at []] ⟨qQ 0 [.x 0 []],[.ext false (.s false 4 l.length (cE l))]⟩ K R)=W ((∀ M:Mem,(0+List.length l)*32≤140737488355328∧0+List.length l≤140737488355328)∧R (.o 0) [.rowc 56 4 (0+List.length l) (.app 0 (.lit 4 []) (.fn (cE l)))]):=by kernel_rfl
theorem zBa(b b2:Bool)(l l2:List Nat)(hl:l.length=l2.length)(hb:l.length≤4398046511104)(Q:SV→List HO→Prop)(hq1:(∀ k,k<l.length→eI (gE l k)=eI (gE l2 k))→Q (.v (.bool true)) [])(hq0:(∃ k,k<l.length∧¬ (eI (gE l k)=eI (gE l2 k)))→Q (.v (.bool false)) []):
  ∀(d k:Nat),k+d=l.length→(∀ k',k'<k→eI (gE l k')=eI (gE l2 k')) →
  FOk Try.prog Try.f42 Q (.rnd [0,0,1,0,1,1] (d+1)::[.blk 0,.at [1,1,1]]) ⟨[(5,.v (.int .i64 (k:Int))),(4,.v (.bool false)),(0,.x 0 []),(1,.x 1 [])],[.ext b (.s false 4 l.length (cE l)),.ext b2 (.s false 4 l2.length (cE l2))]⟩
 | 0,k,hd,he=>by
  refine FOk.rnd (qE hm 60 ((seR b b2 l l2 l.length l2.length k 0 _ _).mpr ⟨?_⟩))
  simp only[qF]
  rw[if_neg (by omega)]
  exact hq1 fun k' hk'=>he k' (by omega)
 | d+1,k,hd,he=>by
  refine FOk.rnd (qE hm 60 ((seR b b2 l l2 l.length l2.length k (d+1) _ _).mpr ⟨?_⟩))
  simp only[qF,zC,forall_const]
  rw[if_pos (by omega)]
  repeat' (first | refine And.intro (by omega) ?_ | refine qH (fun h=>?_) (fun h=>?_))
  ·rw[qN _ (by omega)]
   refine zBa b b2 l l2 hl hb Q hq1 hq0 d (k+1) (by omega) fun k' hk'=>?_
   by_cases hh:k'=k
   ·rw[hh]; exact h
   ·exact he k' (by omega)
  ·exact hq0 ⟨k,by omega,h⟩
theorem bse:Try.f42.body.isSome=true:=by kernel_rfl
theorem nse:Nat.ble [SV.x 0 [],.x 1 []].length Try.f42.ntmps=true:=by kernel_rfl
theorem zSv(b b2:Bool)(l l2:List Nat)(hb:l.length≤4398046511104)(Q:SV→List HO→Prop)(hq1:l.length=l2.length→(∀ k,k<l.length→eI (gE l k)=eI (gE l2 k))→Q (.v (.bool true)) [])(hq0:(l.length≠l2.length∨∃ k,k<l.length∧¬ (eI (gE l k)=eI (gE l2 k)))→Q (.v (.bool false)) []):qI Try.prog 42 [.x 0 [],.x 1 []] [.ext b (.s false 4 l.length (cE l)),.ext b2 (.s false 4 l2.length (cE l2))] Q:=by
 refine qJ Try.func42 bse ?_ ?_
 ·exact nse
 refine qE hm 60 ((seS b b2 l l2 l.length l2.length _ _).mpr ⟨?_⟩)
 simp only[zC,zF]
 refine qH (fun h=>?_) (fun h=>hq0 (.inl (by omega)))
 have h':l.length=l2.length:=by omega
 exact FOk.loop (l.length+1) (by kernel_rfl) (zBa b b2 l l2 h' hb Q (hq1 h') (fun hh=>hq0 (.inr hh)) l.length 0 (by omega) fun k' hk'=>by omega)
noncomputable def zOd:List SV→List HO→Option ((SV→List HO→Prop)→Prop)
 | [.x 0 [],.x 1 []],[.ext _ (.s false 4 n c),.ext _ (.s false 4 n2 c2)]=>some fun Q=>lE2 n n2 c c2 fun l l2=>Q (.v (.bool (decide (l=l2)))) []
 | _,_=>none
theorem zHs(args:List SV)(h:List HO)(tr:(SV→List HO→Prop)→Prop)(Q:SV→List HO→Prop)(hc:zOd args h=some tr)(ht:tr Q):qI Try.prog 42 args h Q:=by
 unfold zOd at hc
 split at hc
 ·rename_i b n c b2 n2 c2
  simp only[sI] at hc
  subst hc
  obtain⟨l,l2,rfl,he,rfl,he2,hb,hv,hv2,hq⟩:=ht.h
  refine qI.ac (zSv b b2 l l2 hb Q (fun h1 h2=>?_) (fun h1=>?_)) ⟨⟨rfl,rfl,rfl,rfl,he⟩,⟨rfl,rfl,rfl,rfl,he2⟩,trivial⟩
  ·rw[decide_eq_true (zQy h1 fun k hk=>zEg (wM hv k) (wM hv2 k) (h2 k hk))] at hq; exact hq
  ·rw[decide_eq_false (fun hh=>by subst hh; exact h1.elim (fun h=>h rfl) (fun⟨_,_,h⟩=>h rfl))] at hq; exact hq
 ·cases hc
theorem bce:Try.f36.body.isSome=true:=by kernel_rfl
theorem nce:Nat.ble [SV.x 0 []].length Try.f36.ntmps=true:=by kernel_rfl
theorem zKz(all:List Nat)(hb:all.length≤4398046511104)(Q:SV→List HO→Prop)(hq:Q (.o 0) [.rowc 56 4 all.length (.fn (cE all))]):qI Try.prog 36 [.x 0 []] [.ext false (.s false 4 all.length (cE all))] Q:=by
 refine qI.mono (qI.eqv (r0:=.o 0) (h0:=[.rowc 56 4 all.length (.fn (cE all))]) ?_) (fun r h' hh=>by rw[hh.1,hh.2]; exact hq)
 refine qJ Try.func36 bce ?_ ?_
 ·exact nce
 refine qE hm 60 ((ceS all _ _).mpr ⟨?_⟩)
 refine⟨fun _=>by omega,rfl,⟨rfl,rfl,by omega,fun k hk j hj=>?_⟩,trivial⟩
 exact xL _ _ _ (Nat.zero_le _)
noncomputable def zRg:List SV→List HO→Option ((SV→List HO→Prop)→Prop)
 | [.x 0 []],[.ext false (.s false 4 n c)]=>some fun Q=>lE n c fun l=>Q (.o 0) [.rowc 56 4 l.length (.fn (cE l))]
 | _,_=>none
theorem zIu(args:List SV)(h:List HO)(tr:(SV→List HO→Prop)→Prop)(Q:SV→List HO→Prop)(hc:zRg args h=some tr)(ht:tr Q):qI Try.prog 36 args h Q:=by
 unfold zRg at hc
 split at hc
 ·rename_i n c
  simp only[sI] at hc
  subst hc
  obtain⟨l,rfl,he,hb,hv,hq⟩:=ht.h
  exact qI.ac (zKz l hb Q hq) ⟨⟨rfl,rfl,rfl,rfl,he⟩,trivial⟩
 ·cases hc
noncomputable def K30:Con Try.prog:=(K29.add 42 zOd zHs).add 36 zRg zIu
end Go.Proofs.Ytlmjdcbhpffanaa
/- The statements' first line. -/
namespace Go.Pl
open Go.Sx
theorem qDu(n:Nat)(h:n<18446744073709551616):qC n 0=n∧qC n 1=0∧qC n 2=0∧qC n 3=0:=qZ n h
end Go.Pl
namespace Go.Proofs.Ytlmjdcbhpffanaa
open Go.Sx Go.Pl
set_option linter.unusedVariables false
set_option maxRecDepth 100000
noncomputable def K31:Con Try.prog:=K30
end Go.Proofs.Ytlmjdcbhpffanaa
/- Arguments' types: how their cells are told. -/
namespace Go.Pl
open Go.Sx
structure Cir where
  fx : Int
  ad : Int
  ins : Int
  nodes : List Nd
  gates : List Int
  looks : List (List Int × List Int)
  eqs : List (Int × Int)
noncomputable def zIs(c:Cir)(j:Nat):qB :=
 match j with
 | 0=>.v (.int .i64 c.fx)
 | 1=>.v (.int .i64 c.ad)
 | 2=>.v (.int .i64 c.ins)
 | 3=>.s false 7 c.nodes.length (cN c.nodes)
 | 4=>.s false 1 c.gates.length (cI c.gates)
 | 5=>.s false 2 c.looks.length (cL c.looks)
 | 6=>.s false 2 c.eqs.length (cK c.eqs)
 | _=>.v undef
def i64(z:Int):Prop := -9223372036854775808≤z∧z<9223372036854775808
structure Cir.ok (c : Cir) : Prop where
  f : i64 c.fx
  a : i64 c.ad
  i : i64 c.ins
  n : (∀ x ∈ c.nodes, x.v < top ∧ i64 x.op ∧ i64 x.a ∧ i64 x.b) ∧ c.nodes.length * 56 ≤ 140737488351232
  g : (∀ x ∈ c.gates, i64 x) ∧ c.gates.length * 8 ≤ 140737488351232
  l : (∀ x ∈ c.looks, ((∀ y ∈ x.1, i64 y) ∧ x.1.length * 8 ≤ 140737488351232) ∧ ((∀ y ∈ x.2, i64 y) ∧ x.2.length * 8 ≤ 140737488351232)) ∧ c.looks.length * 48 ≤ 140737488351232
  e : (∀ x ∈ c.eqs, i64 x.1 ∧ i64 x.2) ∧ c.eqs.length * 16 ≤ 140737488351232
end Go.Pl
namespace Go.Proofs.Ytlmjdcbhpffanaa
open Go.Sx Go.Pl Go.RowKit Go.ChangeShapes Go.WideShapes Go.ChangeAt
set_option linter.unusedVariables false
set_option maxRecDepth 100000
theorem u3:Try.prog.underlying 3=some (.int .i64):=by kernel_rfl
theorem c3:Try.prog.cellsOf 3=1:=by kernel_rfl
theorem u54:Try.prog.underlying 54=some (.int .u64):=by kernel_rfl
theorem c54:Try.prog.cellsOf 54=1:=by kernel_rfl
theorem u4:Try.prog.underlying 4=some (.bool):=by kernel_rfl
theorem wJ:Cod Try.prog 3 1 (fun(z:Int) _=>.v (.int .i64 z)) i64:=(Cod.int u3 c3).mono fun z h=>by
 simp [Lit.wf,IntKind.min,IntKind.max,IntKind.signed,IntKind.bits] at h
 simp only[i64]; omega
theorem zUn:Cod Try.prog 54 1 (fun(z:Nat) _=>.v (.int .u64 (z:Int))) (fun z=>z<18446744073709551616):=(Cod.int u54 c54).conv fun z h=>by
 simp [Lit.wf,IntKind.min,IntKind.max,IntKind.signed,IntKind.bits] at h
 refine⟨z.toNat,by omega,fun j _=>?_⟩
 rw[show((z.toNat:Nat):Int)=z by omega]
theorem u56:Try.prog.underlying 56=some (.array 4 54):=by kernel_rfl
theorem c56:Try.prog.cellsOf 56=4:=by kernel_rfl
theorem zXt:Try.prog.bytesOf 56=32:=by kernel_rfl
theorem zEd:Cod Try.prog 56 4 (fun(a:Nat) j=>.v (.int .u64 (qC a j:Nat))) (fun a=>a<top):=(Cod.arr4 zUn u56 c56).conv fun x h=>by
 obtain⟨h0,h1,h2,h3⟩:=h
 obtain⟨l0,l1,l2,l3⟩:=qHx h0 h1 h2 h3
 refine⟨nv x.1 x.2.1 x.2.2.1 x.2.2.2,zFi h0 h1 h2 h3,fun j hj=>?_⟩
 match j,hj with
 | 0,_=>rw[l0]; rfl
 | 1,_=>rw[l1]; rfl
 | 2,_=>rw[l2]; rfl
 | 3,_=>rw[l3]; rfl
theorem zVm:Try.prog.underlying 113=some (.struct #[⟨"Op",3,0,false, "", "",0⟩,⟨"A",3,1,false, "", "",8⟩,⟨"B",3,2,false, "", "",16⟩,⟨"V",56,3,false, "", "",24⟩]):=by kernel_rfl
theorem jAo:Try.prog.cellsOf 113=7:=by kernel_rfl
theorem zTt:Cod Try.prog 113 7 qBn (fun x=>x.v<top∧i64 x.op∧i64 x.a∧i64 x.b) where
 cells:=jAo
 opn:=by
  intro H enc w base sp hd n cs d p hl h hw
  obtain⟨xs,k,_,hx,_,hxl,hf⟩:=DataW.trod_struct zVm h
  simp only[pI] at hx
  obtain⟨rfl,rfl⟩:=hx
  have hW:∀ x∈DataW.weightsEach Try.prog [3,3,3,56] (xs.map (·.1)),x≤reachBytes:=fun x hx=>hw x (by simp only[DataW.weights,zVm]; exact hx)
  have hxl:xs.length=4:=hxl
  obtain⟨x0,o0,r0⟩:=wJ.field (off:=0) (hf 0 _ rfl) (by omega) hW rfl (by omega)
  obtain⟨x1,o1,r1⟩:=wJ.field (off:=1) (hf 1 _ rfl) (by omega) hW rfl (by omega)
  obtain⟨x2,o2,r2⟩:=wJ.field (off:=2) (hf 2 _ rfl) (by omega) hW rfl (by omega)
  obtain⟨x3,o3,r3⟩:=zEd.field (off:=3) (hf 3 _ rfl) (by omega) hW rfl (by omega)
  refine⟨⟨x0,x1,x2,x3⟩,⟨o3,o0,o1,o2⟩,fun j hj=>?_⟩
  match j,hj with
  | 0,_=>exact r0 0 (by omega)
  | 1,_=>exact r1 0 (by omega)
  | 2,_=>exact r2 0 (by omega)
  | 3,_=>exact r3 0 (by omega)
  | 4,_=>exact r3 1 (by omega)
  | 5,_=>exact r3 2 (by omega)
  | 6,_=>exact r3 3 (by omega)
theorem zVd:Try.prog.bytesOf 113=56:=by kernel_rfl
theorem zSr:Try.prog.underlying 139=some (.struct #[⟨"Kind",3,0,false, "", "",0⟩,⟨"Col",3,1,false, "", "",8⟩]):=by kernel_rfl
theorem zYm:Try.prog.cellsOf 139=2:=by kernel_rfl
theorem zSx:Cod Try.prog 139 2 zKi (fun x=>i64 x.1∧i64 x.2) where
 cells:=zYm
 opn:=by
  intro H enc w base sp hd n cs d p hl h hw
  obtain⟨xs,k,_,hx,_,hxl,hf⟩:=DataW.trod_struct zSr h
  simp only[pI] at hx
  obtain⟨rfl,rfl⟩:=hx
  have hW:∀ x∈DataW.weightsEach Try.prog [3,3] (xs.map (·.1)),x≤reachBytes:=fun x hx=>hw x (by simp only[DataW.weights,zSr]; exact hx)
  have hxl:xs.length=2:=hxl
  obtain⟨x0,o0,r0⟩:=wJ.field (off:=0) (hf 0 _ rfl) (by omega) hW rfl (by omega)
  obtain⟨x1,o1,r1⟩:=wJ.field (off:=1) (hf 1 _ rfl) (by omega) hW rfl (by omega)
  refine⟨(x0,x1),⟨o0,o1⟩,fun j hj=>?_⟩
  match j,hj with
  | 0,_=>exact r0 0 (by omega)
  | 1,_=>exact r1 0 (by omega)
theorem zTy:Try.prog.bytesOf 139=16:=by kernel_rfl
theorem by3:Try.prog.bytesOf 3=8:=by kernel_rfl
theorem u22:Try.prog.underlying 22=some (.slice 113):=by kernel_rfl
theorem c22:Try.prog.cellsOf 22=1:=by kernel_rfl
theorem zQf:Cod Try.prog 22 1 (fun(l:List Nd) _=>.s false 7 l.length (cN l)) (fun l=>(∀ x∈l,x.v<top∧i64 x.op∧i64 x.a∧i64 x.b)∧l.length*56≤140737488351232):=(Cod.slice zTt u22 c22 dN).mono fun l h=>by
 obtain⟨h1,h2⟩:=h
 rw[zVd,reachBytes] at h2
 exact⟨h1,h2⟩
theorem u23:Try.prog.underlying 23=some (.slice 3):=by kernel_rfl
theorem c23:Try.prog.cellsOf 23=1:=by kernel_rfl
theorem qYb:Cod Try.prog 23 1 (fun(l:List Int) _=>.s false 1 l.length (cI l)) (fun l=>(∀ x∈l,i64 x)∧l.length*8≤140737488351232):=(Cod.slice wJ u23 c23 0).mono fun l h=>by
 obtain⟨h1,h2⟩:=h
 rw[by3,reachBytes] at h2
 exact⟨h1,h2⟩
theorem u44:Try.prog.underlying 44=some (.slice 56):=by kernel_rfl
theorem c44:Try.prog.cellsOf 44=1:=by kernel_rfl
theorem zEc:Cod Try.prog 44 1 (fun(l:List Nat) _=>.s false 4 l.length (cE l)) (fun l=>(∀ x∈l,x<top)∧l.length*32≤140737488351232):=(Cod.slice zEd u44 c44 0).mono fun l h=>by
 obtain⟨h1,h2⟩:=h
 rw[zXt,reachBytes] at h2
 exact⟨h1,h2⟩
theorem u25:Try.prog.underlying 25=some (.slice 139):=by kernel_rfl
theorem c25:Try.prog.cellsOf 25=1:=by kernel_rfl
theorem zQg:Cod Try.prog 25 1 (fun(l:List (Int×Int)) _=>.s false 2 l.length (cK l)) (fun l=>(∀ x∈l,i64 x.1∧i64 x.2)∧l.length*16≤140737488351232):=(Cod.slice zSx u25 c25 (0,0)).mono fun l h=>by
 obtain⟨h1,h2⟩:=h
 rw[zTy,reachBytes] at h2
 exact⟨h1,h2⟩
theorem u86:Try.prog.underlying 86=some (.struct #[⟨"Inputs",23,0,false, "", "",0⟩,⟨"Tables",23,1,false, "", "",24⟩]):=by kernel_rfl
theorem c86:Try.prog.cellsOf 86=2:=by kernel_rfl
theorem zTk:Cod Try.prog 86 2 zFf (fun x=>((∀ y∈x.1,i64 y)∧x.1.length*8≤140737488351232)∧((∀ y∈x.2,i64 y)∧x.2.length*8≤140737488351232)) where
 cells:=c86
 opn:=by
  intro H enc w base sp hd n cs d p hl h hw
  obtain⟨xs,k,_,hx,_,hxl,hf⟩:=DataW.trod_struct u86 h
  simp only[pI] at hx
  obtain⟨rfl,rfl⟩:=hx
  have hW:∀ x∈DataW.weightsEach Try.prog [23,23] (xs.map (·.1)),x≤reachBytes:=fun x hx=>hw x (by simp only[DataW.weights,u86]; exact hx)
  have hxl:xs.length=2:=hxl
  obtain⟨x0,o0,r0⟩:=qYb.field (off:=0) (hf 0 _ rfl) (by omega) hW rfl (by omega)
  obtain⟨x1,o1,r1⟩:=qYb.field (off:=1) (hf 1 _ rfl) (by omega) hW rfl (by omega)
  refine⟨(x0,x1),⟨o0,o1⟩,fun j hj=>?_⟩
  match j,hj with
  | 0,_=>exact r0 0 (by omega)
  | 1,_=>exact r1 0 (by omega)
theorem zYp:Try.prog.bytesOf 86=48:=by kernel_rfl
theorem u24:Try.prog.underlying 24=some (.slice 86):=by kernel_rfl
theorem c24:Try.prog.cellsOf 24=1:=by kernel_rfl
theorem zPh:Cod Try.prog 24 1 (fun(l:List (List Int×List Int)) _=>.s false 2 l.length (cL l)) (fun l=>(∀ x∈l,((∀ y∈x.1,i64 y)∧x.1.length*8≤140737488351232)∧((∀ y∈x.2,i64 y)∧x.2.length*8≤140737488351232))∧l.length*48≤140737488351232):=(Cod.slice zTk u24 c24 ([],[])).mono fun l h=>by
 obtain⟨h1,h2⟩:=h
 rw[zYp,reachBytes] at h2
 exact⟨h1,h2⟩
theorem u27:Try.prog.underlying 27=some (.struct #[⟨"Fixed",3,0,false, "", "",0⟩,⟨"Advice",3,1,false, "", "",8⟩,⟨"Instance",3,2,false, "", "",16⟩,⟨"Nodes",22,3,false, "", "",24⟩,⟨"Gates",23,4,false, "", "",48⟩,⟨"Lookups",24,5,false, "", "",72⟩,⟨"Equal",25,6,false, "", "",96⟩]):=by kernel_rfl
theorem c27:Try.prog.cellsOf 27=7:=by kernel_rfl
theorem zVg:Cod Try.prog 27 7 zIs Cir.ok where
 cells:=c27
 opn:=by
  intro H enc w base sp hd n cs d p hl h hw
  obtain⟨xs,k,_,hx,_,hxl,hf⟩:=DataW.trod_struct u27 h
  simp only[pI] at hx
  obtain⟨rfl,rfl⟩:=hx
  have hW:∀ x∈DataW.weightsEach Try.prog [3,3,3,22,23,24,25] (xs.map (·.1)),x≤reachBytes:=fun x hx=>hw x (by simp only[DataW.weights,u27]; exact hx)
  have hxl:xs.length=7:=hxl
  obtain⟨x0,o0,r0⟩:=wJ.field (off:=0) (hf 0 _ rfl) (by omega) hW rfl (by omega)
  obtain⟨x1,o1,r1⟩:=wJ.field (off:=1) (hf 1 _ rfl) (by omega) hW rfl (by omega)
  obtain⟨x2,o2,r2⟩:=wJ.field (off:=2) (hf 2 _ rfl) (by omega) hW rfl (by omega)
  obtain⟨x3,o3,r3⟩:=zQf.field (off:=3) (hf 3 _ rfl) (by omega) hW rfl (by omega)
  obtain⟨x4,o4,r4⟩:=qYb.field (off:=4) (hf 4 _ rfl) (by omega) hW rfl (by omega)
  obtain⟨x5,o5,r5⟩:=zPh.field (off:=5) (hf 5 _ rfl) (by omega) hW rfl (by omega)
  obtain⟨x6,o6,r6⟩:=zQg.field (off:=6) (hf 6 _ rfl) (by omega) hW rfl (by omega)
  refine⟨⟨x0,x1,x2,x3,x4,x5,x6⟩,⟨o0,o1,o2,o3,o4,o5,o6⟩,fun j hj=>?_⟩
  match j,hj with
  | 0,_=>exact r0 0 (by omega)
  | 1,_=>exact r1 0 (by omega)
  | 2,_=>exact r2 0 (by omega)
  | 3,_=>exact r3 0 (by omega)
  | 4,_=>exact r4 0 (by omega)
  | 5,_=>exact r5 0 (by omega)
  | 6,_=>exact r6 0 (by omega)
end Go.Proofs.Ytlmjdcbhpffanaa
/- ExprMemory: the walk. -/
namespace Go.Pl
open Go.Sx
theorem qRb:∀(l:List Nd) (out:List (Int×Int×Int)),(qsN out l).length≤out.length+l.length
 | [],out=>by rw[qsN]; exact Nat.le_add_right _ _
 | x::r,out=>by
  rw[qsN]
  split
  ·have:=qRb r (out++[(x.op,x.a,x.b)])
   rw[List.length_append] at this
   simp only[List.length_cons,List.length_nil] at this ⊢
   omega
  ·have:=qRb r out
   rw[List.length_cons]
   omega
theorem qIt(l:List Nd)(root:Int):(yG l root).length≤l.length:=by
 rw[yG]
 split
 ·rename_i h
  rw[List.length_map]
  refine Nat.le_trans (List.length_filter_le _ _) ?_
  rw[List.length_range]
  omega
 ·exact Nat.zero_le _
end Go.Pl
namespace Go.Proofs.Ytlmjdcbhpffanaa
open Go.Sx Go.Pl
set_option linter.unusedVariables false
set_option maxRecDepth 100000
end Go.Proofs.Ytlmjdcbhpffanaa
/- Values and degrees, place by place; where all degrees are 1 at most the values are linear. -/
namespace Go.Pl
open Go.Sx
end Go.Pl
/- What a node hangs on: its cone alone. -/
namespace Go.Pl
open Go.Sx
def inC(l:List Nd)(root k:Nat):Bool:=(qEp l (root+1) ((List.replicate l.length false).set root true)).getD k false
theorem zIc{l:List Nd}{root:Int}(ho:jT 0 l=true)(h0:0≤root)(h1:root<(l.length:Int)):yG l root=((List.range (root.toNat+1)).filter fun i=>inC l root.toNat i).map fun(i:Nat)=>(i:Int):=by
 rw[yG,if_pos ⟨ho,h0,h1⟩]; rfl
theorem zCg{l:List Nd}{root:Int}(h:yG l root≠[]):jT 0 l=true∧0≤root∧root<(l.length:Int):=by
 by_cases hc:jT 0 l=true∧0≤root∧root<(l.length:Int)
 ·exact hc
 ·rw[yG,if_neg hc] at h
  exact absurd rfl h
end Go.Pl
/- A row of one's own that is given up: from now on it is frozen memory. -/
namespace Go.Sx
open Go.RowKit
mutual
def qIq (i n : Nat) : SV → SV
  | .o j => bif Nat.beq j i then .x n [] else .o j
  | .agg cs => .agg (qNn i n cs)
  | .tup cs => .tup (qNn i n cs)
  | .fn f a c => .fn f (qNn i n a) (qNn i n c)
  | .ifc t y => .ifc t (qIq i n y)
  | .v x => .v x
  | .bl b => .bl b
  | .p j off => .p j off
  | .q j off => .q j off
  | .m j => .m j
  | .sl j off len cap => .sl j off len cap
  | .x j p => .x j p
  | .xp j p sz k c => .xp j p sz k c
  | .qk j sz k c => .qk j sz k c
def qNn (i n : Nat) : List SV → List SV
  | [] => []
  | x :: r => qIq i n x :: qNn i n r
end
mutual
theorem qEt (i n : Nat) (e : Env) (h : e.val n [] = e.row i) : ∀ s, den e (qIq i n s) = den e s
  | .o j => by
    simp only [qIq]
    cases hb : Nat.beq j i with
    | true => rw [cond_true, den, den, h, Nat.eq_of_beq_eq_true hb]
    | false => rfl
  | .agg cs => by simp only [qIq, den, wA i n e h cs]
  | .tup cs => by simp only [qIq, den, wA i n e h cs]
  | .fn f a c => by simp only [qIq, den, wA i n e h a, wA i n e h c]
  | .ifc t y => by simp only [qIq, den, qEt i n e h y]
  | .v x => rfl
  | .bl b => rfl
  | .p j off => rfl
  | .q j off => rfl
  | .m j => rfl
  | .sl j off len cap => rfl
  | .x j p => rfl
  | .xp j p sz k c => rfl
  | .qk j sz k c => rfl
theorem wA (i n : Nat) (e : Env) (h : e.val n [] = e.row i) : ∀ l, qL e (qNn i n l) = qL e l
  | [] => rfl
  | x :: r => by simp only [qNn, qL, qEt i n e h x, wA i n e h r]
end
mutual
theorem qIb (i n m : Nat) (h : n < m) : ∀ s, ws m s → ws m (qIq i n s)
  | .o j, hs => by
    simp only [qIq]
    cases Nat.beq j i with
    | true => exact h
    | false => exact hs
  | .agg cs, hs => qAj i n m h cs hs
  | .tup cs, hs => qAj i n m h cs hs
  | .fn f a c, hs => ⟨qAj i n m h a hs.1, qAj i n m h c hs.2⟩
  | .ifc t y, hs => qIb i n m h y hs
  | .v x, _ => trivial
  | .bl b, _ => trivial
  | .p j off, hs => hs
  | .q j off, hs => hs
  | .m j, hs => hs
  | .sl j off len cap, hs => hs
  | .x j p, hs => hs
  | .xp j p sz k c, hs => hs
  | .qk j sz k c, hs => hs
theorem qAj (i n m : Nat) (h : n < m) : ∀ l, wsL m l → wsL m (qNn i n l)
  | [], _ => trivial
  | x :: r, hs => ⟨qIb i n m h x hs.1, qAj i n m h r hs.2⟩
end
def zCx(i n:Nat):List (Nat×SV)→List (Nat×SV)
 | []=>[]
 | (t,s)::r=>(t,qIq i n s)::zCx i n r
theorem qCx(i n:Nat):∀(l:List (Nat×SV)) {t:Nat} {s:SV},lk (zCx i n l) t=some s→∃ s0,lk l t=some s0∧s=qIq i n s0
 | [],t,s,h=>by cases h
 | (u,x)::r,t,s,h=>by
  simp only[zCx,lk] at h ⊢
  cases hb:Nat.beq u t with
  | true =>
   rw[hb] at h
   simp only[cond_true,sI] at h
   exact⟨x,rfl,h.symm⟩
  | false =>
   rw[hb] at h
   exact qCx i n r h
theorem FOk.frz{P:Program}{m:Nat}{fn:Func}{Q:SV→List HO→Prop}{k:List It}{tm:List (Nat×SV)}{h:List HO}(i:Nat){T:TypeId}{sz n:Nat}{c:Ct}(hi:h[i]?=some (.rowc T sz n c))(hk:zZ P m fn Q k ⟨zCx i h.length tm,h.set i .gone++[.ext false (.s false sz n c.at)]⟩):zZ P m fn Q k ⟨tm,h⟩:=by
 intro F hF w0 hw0 e a w S T0
 have hlt:=(List.getElem?_eq_some_iff.1 hi).1
 obtain⟨S1,hle⟩:=S.drop hF i hlt
 obtain⟨qT,h1,_,h2⟩:=S.sat i _ hi
 obtain⟨f,f1,f2,f3⟩:=S.frozen hi rfl h1 hle h2
 have S2:=S1.newExt hF false (.s false sz n c.at) f f1 (by simpa using f3)
 rw[List.length_set] at S2
 have hag:=jC e h.length f f1
 have hv:(e.setV h.length f f1).val h.length []=(e.setV h.length f f1).row i:=by
  have:(e.setV h.length f f1).val h.length=f:=by simp [Env.setV]
  rw[this,f2]; rfl
 refine hk F hF w0 hw0 _ a w S2 ⟨T0.size,T0.defers,fun t s hs=>?_,fun t s hs=>?_⟩
 ·obtain⟨s0,q1,rfl⟩:=qCx i _ tm hs
  rw[qEt i _ _ hv,T0.get t s0 q1,jK hag s0 (T0.wsc t s0 q1)]
 ·obtain⟨s0,q1,rfl⟩:=qCx i _ tm hs
  have hl:(h.set i HO.gone++[HO.ext false (.s false sz n c.at)]).length=h.length+1:=by simp
  show ws (h.set i HO.gone++[HO.ext false (.s false sz n c.at)]).length _
  rw[hl]
  exact qIb i _ _ (Nat.lt_succ_self _) s0 (yR (Nat.le_succ _) s0 (T0.wsc t s0 q1))
theorem qI.frz1{P:Program}{m:Nat}{f:FuncId}{args:List SV}{h:List HO}{r0:SV}{h0:List HO}(i:Nat){T:TypeId}{sz n:Nat}{c:Ct}(hi:h0[i]?=some (.rowc T sz n c))(k:zL P m f args h fun r h'=>r=r0∧h'=h0):zL P m f args h fun r h'=>r=qIq i h0.length r0∧h'=h0.set i .gone++[.ext false (.s false sz n c.at)]:=by
 intro F hF w0 e hm0 S hw
 refine(k F hF w0 e hm0 S hw).mono fun E w' hE=>?_
 obtain⟨e1,r,h',⟨rfl,rfl⟩,h2,S,h4⟩:=hE
 have hlt:=(List.getElem?_eq_some_iff.1 hi).1
 obtain⟨S1,hle⟩:=S.drop hF i hlt
 obtain⟨qT,h1,_,h2'⟩:=S.sat i _ hi
 obtain⟨f,f1,f2,f3⟩:=S.frozen hi rfl h1 hle h2'
 have S2:=S1.newExt hF false (.s false sz n c.at) f f1 (by simpa using f3)
 rw[List.length_set] at S2
 have hag:=jC e1 h'.length f f1
 have hv:(e1.setV h'.length f f1).val h'.length []=(e1.setV h'.length f f1).row i:=by
  have:(e1.setV h'.length f f1).val h'.length=f:=by simp [Env.setV]
  rw[this,f2]; rfl
 have hl:(h'.set i HO.gone++[HO.ext false (.s false sz n c.at)]).length=h'.length+1:=by simp
 refine⟨_,_,_,⟨rfl,rfl⟩,?_,S2,?_⟩
 ·rw[hl]
  exact qIb i _ _ (Nat.lt_succ_self _) r (yR (Nat.le_succ _) r h2)
 ·rw[h4,qEt i _ _ hv,jK hag r h2]
theorem qI.gc{P:Program}{m:Nat}{f:FuncId}{args:List SV}{h:List HO}{r0 r1:SV}{h0 h1:List HO}(hg:gcS m r0 h0=some (r1,h1))(k:zL P m f args h fun r h'=>r=r0∧h'=h0):zL P m f args h fun r h'=>r=r1∧h'=h1:=by
 intro F hF w0 e hm0 S hw
 refine(k F hF w0 e hm0 S hw).mono fun E w' hE=>?_
 obtain⟨e1,r,h',⟨rfl,rfl⟩,h2,S,h4⟩:=hE
 obtain⟨e2,S2,d2,w2⟩:=qOy hF hm0 S hg
 exact⟨e2,r1,h1,⟨rfl,rfl⟩,w2,S2,by rw[h4,d2]⟩
end Go.Sx
/- Lists of integers: copied; of queries: compared. -/
namespace Go.Pl
open Go.Sx
structure lI (n : Nat) (c : Nat → Nat → qB) (k : List Int → Prop) : Prop where
  h : ∃ l : List Int, n = l.length ∧ IsC n 1 c (cI l) ∧ l.length ≤ 17592186043904 ∧ k l
structure lI2 (n n2 : Nat) (c c2 : Nat → Nat → qB) (k : List Int → List Int → Prop) : Prop where
  h : ∃ l l2 : List Int, n = l.length ∧ IsC n 1 c (cI l) ∧ n2 = l2.length ∧ IsC n2 1 c2 (cI l2) ∧ l.length ≤ 17592186043904 ∧ k l l2
structure lQ2 (n n2 : Nat) (c c2 : Nat → Nat → qB) (k : List (Int × Int × Int) → List (Int × Int × Int) → Prop) : Prop where
  h : ∃ l l2 : List (Int × Int × Int), n = l.length ∧ IsC n 3 c (cQ l) ∧ n2 = l2.length ∧ IsC n2 3 c2 (cQ l2) ∧ l.length ≤ 4398046511104 ∧ k l l2
end Go.Pl
namespace Go.Proofs.Ytlmjdcbhpffanaa
open Go.Sx Go.Pl
set_option linter.unusedVariables false
set_option maxRecDepth 100000
theorem ciS(l:List Int)(K:List It→St→Prop)(R:SV→List HO→Prop):W (xwp Try.prog X K31 [] 60 (qO Try.f35 [] []) [] [.at []] ⟨qQ 0 [.x 0 []],[.ext false (.s false 1 l.length (cI l))]⟩ K R)=W ((∀ M:Mem,(0+List.length l)*8≤140737488355328∧0+List.length l≤140737488355328)∧R (.o 0) [.rowc 3 1 (0+List.length l) (.app 0 (.lit 1 []) (.fn (cI l)))]):=by kernel_rfl
theorem qVm(b b2:Bool)(l l2:List Int)(hl:l.length=l2.length)(hb:l.length≤17592186043904)(Q:SV→List HO→Prop)(hq1:(∀ k,k<l.length→gI l k=gI l2 k)→Q (.v (.bool true)) [])(hq0:(∃ k,k<l.length∧¬ (gI l k=gI l2 k))→Q (.v (.bool false)) []):
  ∀(d k:Nat),k+d=l.length→(∀ k',k'<k→gI l k'=gI l2 k') →
  FOk Try.prog Try.f17 Q (.rnd [0,0,1,0,1,1] (d+1)::[.blk 0,.at [1,1,1]]) ⟨[(5,.v (.int .i64 (k:Int))),(4,.v (.bool false)),(0,.x 0 []),(1,.x 1 [])],[.ext b (.s false 1 l.length (cI l)),.ext b2 (.s false 1 l2.length (cI l2))]⟩
 | 0,k,hd,he=>by
  refine FOk.rnd (qE hm 60 ((siR b b2 l l2 l.length l2.length k 0 _ _).mpr ⟨?_⟩))
  simp only[qF]
  rw[if_neg (by omega)]
  exact hq1 fun k' hk'=>he k' (by omega)
 | d+1,k,hd,he=>by
  refine FOk.rnd (qE hm 60 ((siR b b2 l l2 l.length l2.length k (d+1) _ _).mpr ⟨?_⟩))
  simp only[qF,zC,zF,forall_const]
  rw[if_pos (by omega)]
  repeat' (first | refine And.intro (by omega) ?_ | refine qH (fun h=>?_) (fun h=>?_))
  ·rw[qN _ (by omega)]
   refine qVm b b2 l l2 hl hb Q hq1 hq0 d (k+1) (by omega) fun k' hk'=>?_
   by_cases hh:k'=k
   ·rw[hh]; exact h
   ·exact he k' (by omega)
  ·exact hq0 ⟨k,by omega,h⟩
theorem zXp:Try.f17.body.isSome=true:=by kernel_rfl
theorem jAc:Nat.ble [SV.x 0 [],.x 1 []].length Try.f17.ntmps=true:=by kernel_rfl
theorem zPz(b b2:Bool)(l l2:List Int)(hb:l.length≤17592186043904)(Q:SV→List HO→Prop)(hq1:l.length=l2.length→(∀ k,k<l.length→gI l k=gI l2 k)→Q (.v (.bool true)) [])(hq0:(l.length≠l2.length∨∃ k,k<l.length∧¬ (gI l k=gI l2 k))→Q (.v (.bool false)) []):qI Try.prog 17 [.x 0 [],.x 1 []] [.ext b (.s false 1 l.length (cI l)),.ext b2 (.s false 1 l2.length (cI l2))] Q:=by
 refine qJ Try.func17 zXp ?_ ?_
 ·exact jAc
 refine qE hm 60 ((siS b b2 l l2 l.length l2.length _ _).mpr ⟨?_⟩)
 simp only[zC,zF]
 refine qH (fun h=>?_) (fun h=>hq0 (.inl (by omega)))
 have h':l.length=l2.length:=by omega
 exact FOk.loop (l.length+1) (by kernel_rfl) (qVm b b2 l l2 h' hb Q (hq1 h') (fun hh=>hq0 (.inr hh)) l.length 0 (by omega) fun k' hk'=>by omega)
noncomputable def zGt:List SV→List HO→Option ((SV→List HO→Prop)→Prop)
 | [.x 0 [],.x 1 []],[.ext _ (.s false 1 n c),.ext _ (.s false 1 n2 c2)]=>some fun Q=>lI2 n n2 c c2 fun l l2=>Q (.v (.bool (decide (l=l2)))) []
 | _,_=>none
theorem zFu(args:List SV)(h:List HO)(tr:(SV→List HO→Prop)→Prop)(Q:SV→List HO→Prop)(hc:zGt args h=some tr)(ht:tr Q):qI Try.prog 17 args h Q:=by
 unfold zGt at hc
 split at hc
 ·rename_i b n c b2 n2 c2
  simp only[sI] at hc
  subst hc
  obtain⟨l,l2,rfl,he,rfl,he2,hb,hq⟩:=ht.h
  refine qI.ac (zPz b b2 l l2 hb Q (fun h1 h2=>?_) (fun h1=>?_)) ⟨⟨rfl,rfl,rfl,rfl,he⟩,⟨rfl,rfl,rfl,rfl,he2⟩,trivial⟩
  ·rw[decide_eq_true (zFl h1 h2)] at hq; exact hq
  ·rw[decide_eq_false (fun hh=>by subst hh; exact h1.elim (fun h=>h rfl) (fun⟨_,_,h⟩=>h rfl))] at hq; exact hq
 ·cases hc
theorem bci:Try.f35.body.isSome=true:=by kernel_rfl
theorem nci:Nat.ble [SV.x 0 []].length Try.f35.ntmps=true:=by kernel_rfl
theorem zTv(all:List Int)(hb:all.length≤17592186043904)(Q:SV→List HO→Prop)(hq:Q (.o 0) [.rowc 3 1 all.length (.fn (cI all))]):qI Try.prog 35 [.x 0 []] [.ext false (.s false 1 all.length (cI all))] Q:=by
 refine qI.mono (qI.eqv (r0:=.o 0) (h0:=[.rowc 3 1 all.length (.fn (cI all))]) ?_) (fun r h' hh=>by rw[hh.1,hh.2]; exact hq)
 refine qJ Try.func35 bci ?_ ?_
 ·exact nci
 refine qE hm 60 ((ciS all _ _).mpr ⟨?_⟩)
 refine⟨fun _=>by omega,rfl,⟨rfl,rfl,by omega,fun k hk j hj=>?_⟩,trivial⟩
 exact xL _ _ _ (Nat.zero_le _)
theorem zNv(all:List Int)(hb:all.length≤17592186043904)(Q:SV→List HO→Prop)(hq:Q (.x 0 []) [.ext false (.s false 1 all.length (cI all))]):qI Try.prog 35 [.x 0 []] [.ext false (.s false 1 all.length (cI all))] Q:=by
 have h:=qI.gc (r1:=.x 0 []) (h1:=[.ext false (.s false 1 all.length (cI all))]) rfl (qI.frz1 0 rfl (zTv all hb (fun r h'=>r=.o 0∧h'=[.rowc 3 1 all.length (.fn (cI all))]) ⟨rfl,rfl⟩))
 exact qI.mono h fun r h' hh=>by rw[hh.1,hh.2]; exact hq
noncomputable def zRy:List SV→List HO→Option ((SV→List HO→Prop)→Prop)
 | [.x 0 []],[.ext false (.s false 1 n c)]=>some fun Q=>lI n c fun l=>Q (.x 0 []) [.ext false (.s false 1 l.length (cI l))]
 | _,_=>none
theorem zJm(args:List SV)(h:List HO)(tr:(SV→List HO→Prop)→Prop)(Q:SV→List HO→Prop)(hc:zRy args h=some tr)(ht:tr Q):qI Try.prog 35 args h Q:=by
 unfold zRy at hc
 split at hc
 ·rename_i n c
  simp only[sI] at hc
  subst hc
  obtain⟨l,rfl,he,hb,hq⟩:=ht.h
  exact qI.ac (zNv l hb Q hq) ⟨⟨rfl,rfl,rfl,rfl,he⟩,trivial⟩
 ·cases hc
noncomputable def K44:Con Try.prog:=((K31).add 17 zGt zFu).add 35 zRy zJm
end Go.Proofs.Ytlmjdcbhpffanaa
/- A circuit as new memory. -/
namespace Go.Pl
open Go.Sx
theorem zIn{l:List (List Int×List Int)}{k:Nat}(a b:List Int)(h:l.length=k):IsC (k+1) 2 (Ct.app k (.fn (cL l)) (.lit 2 [.s false 1 a.length (cI a),.s false 1 b.length (cI b)])).at (Ct.fn (cL (l++[(a,b)]))).at:=by
 subst h
 exact xY zFf ([],[]) 2 l (a,b) _ fun j hj=>by
  match j,hj with
  | 0,_=>rfl
  | 1,_=>rfl
theorem qSe{l:List (List Int×List Int)}{k:Nat}(h:k<l.length):gL l k∈l:=by
 rw[gL,List.getD_eq_getElem?_getD,List.getElem?_eq_getElem h]
 exact List.getElem_mem h
theorem zIh{l:List (List Int×List Int)}{k:Nat}(h:k<l.length):l.take k++[((gL l k).1,(gL l k).2)]=l.take (k+1):=by
 rw[List.take_add_one,List.getElem?_eq_getElem h,gL,List.getD_eq_getElem?_getD,List.getElem?_eq_getElem h]
 rfl
structure lC (fx ad ins : Int) (n0 n1 n2 n3 : Nat) (c0 c1 c2 c3 : Nat → Nat → qB) (k : Cir → Prop) : Prop where
  h : ∃ c : Cir, fx = c.fx ∧ ad = c.ad ∧ ins = c.ins ∧ (n0 = c.nodes.length ∧ IsC n0 7 c0 (cN c.nodes)) ∧ (n1 = c.gates.length ∧ IsC n1 1 c1 (cI c.gates)) ∧ (n2 = c.looks.length ∧ IsC n2 2 c2 (cL c.looks)) ∧ (n3 = c.eqs.length ∧ IsC n3 2 c3 (cK c.eqs)) ∧ c.ok ∧ k c
theorem qLj(c:Cir)(hc:c.ok){k:Cir→Prop}(h:k c):lC c.fx c.ad c.ins c.nodes.length c.gates.length c.looks.length c.eqs.length (cN c.nodes) (cI c.gates) (cL c.looks) (cK c.eqs) k :=
 ⟨⟨c,rfl,rfl,rfl,⟨rfl,IsC.refl _ _ _⟩,⟨rfl,IsC.refl _ _ _⟩,⟨rfl,IsC.refl _ _ _⟩,⟨rfl,IsC.refl _ _ _⟩,hc,h⟩⟩
end Go.Pl
namespace Go.Proofs.Ytlmjdcbhpffanaa
open Go.Sx Go.Pl
set_option linter.unusedVariables false
set_option maxRecDepth 100000
theorem ccS(c:Cir)(K:List It→St→Prop)(R:SV→List HO→Prop):W (xwp Try.prog X K44 [] 60 (qO Try.f13 [] [⟨[0,1,0,1,1,1,1],[4,3,1,2],[]⟩]) [] [.at []] ⟨qQ 0 [.agg [.v (.int .i64 c.fx),.v (.int .i64 c.ad),.v (.int .i64 c.ins),.x 0 [],.x 1 [],.x 2 [],.x 3 []]],[.ext false (.s false 7 c.nodes.length (cN c.nodes)),.ext false (.s false 1 c.gates.length (cI c.gates)),.ext false (.s false 2 c.looks.length (cL c.looks)),.ext false (.s false 2 c.eqs.length (cK c.eqs))]⟩ K R)=W (∃(l:List Nd),List.length c.4=List.length l∧IsC c.4.length 7 (cN c.4) (cN l)∧List.length l≤2513169434916∧(∀ M:Mem,3+1≤7)∧lI c.5.length (cI c.5) fun(l_1:List Int)=>(∀ M:Mem,4+1≤7)∧K [.at [0,1,0,1,1,1,1],.blk 0,.at [1,1,1,1,1]] (St.mk [(4,.v (qA 0)),(3,.o 0),(1,.p 1 0),(2,.p 2 0)] [.rowc 86 2 0 (.lit 2 []),.cells [.v (qA c.1),.v (qA c.2),.v (qA c.3),.o 3,.x 4 [],.x 5 [],.x 6 []] 27,.cells [.v (qA 0),.v (qA 0),.v (qA 0),.v (Value.slice none 0 0),.v (Value.slice none 0 0),.v (Value.slice none 0 0),.v (Value.slice none 0 0)] 27,.rowc 113 7 l.length (.fn (cN l)),.ext false (.s false 1 l_1.length (cI l_1)),.ext false (.s false 2 c.6.length (cL c.6)),.ext false (.s false 2 c.7.length (cK c.7))])):=by kernel_rfl
theorem ccR(c:Cir)(ls:List (List Int×List Int))(m k M:Nat)(K:List It→St→Prop)(R:SV→List HO→Prop):W (xwp Try.prog X K44 [] 60 (qO Try.f13 [] [⟨[0,1,0,1,1,1,1],[4,3,1,2],[]⟩]) [] (.at [0,0,1,0,1,1,1,1]::.rnd [0,0,1,0,1,1,1,1] M::[.blk 0,.at [1,1,1,1,1]]) ⟨[(4,.v (.int .i64 (k:Int))),(3,.o 0),(1,.p 1 0),(2,.p 2 0)],[.rowc 86 2 m (.fn (cL ls)),.cells [.v (.int .i64 c.fx),.v (.int .i64 c.ad),.v (.int .i64 c.ins),.o 3,.x 4 [],.x 5 [],.x 6 []] 27,.cells [.v (.int .i64 0),.v (.int .i64 0),.v (.int .i64 0),.v (.slice none 0 0),.v (.slice none 0 0),.v (.slice none 0 0),.v (.slice none 0 0)] 27,.rowc 113 7 c.nodes.length (.fn (cN c.nodes)),.ext false (.s false 1 c.gates.length (cI c.gates)),.ext false (.s false 2 c.looks.length (cL c.looks)),.ext false (.s false 2 c.eqs.length (cK c.eqs))]⟩ K R)=W (bif decide ((↑k:Int)<(↑c.6.length:Int)) then(∀ M:Mem,(0:Int)≤(↑k:Int)∧(↑k:Int)<(↑c.6.length:Int))∧(∀ M:Mem,k<List.length c.6)∧(∀ M:Mem,k<List.length c.6)∧(∀ M:Mem,(0:Int)≤(↑k:Int)∧(↑k:Int)<(↑c.6.length:Int))∧(∀ M:Mem,k<List.length c.6)∧(∀ M:Mem,k<List.length c.6)∧(∀ M:Mem,k<List.length c.6)∧lI (List.length (gL c.6 k).1) (cI (gL c.6 k).1) fun(l:List Int)=>(∀ M:Mem,k<List.length c.6)∧lI (List.length (gL c.6 k).2) (cI (gL c.6 k).2) fun(l_1:List Int)=>(∀ M:Mem,(m+1)*48≤140737488355328∧m+1≤140737488355328)∧K [.rnd [0,0,1,0,1,1,1,1] M,.blk 0,.at [1,1,1,1,1]] (St.mk [(4,.v (qA (IntKind.wrap .i64 ((↑k:Int)+(1:Int))))),(3,.o 0),(1,.p 1 0),(2,.p 2 0)] [.rowc 86 2 (m+1) (.app m (.fn (cL ls)) (.lit 2 [.s false 1 l.length (cI l),.s false 1 l_1.length (cI l_1)])),.cells [.v (qA c.1),.v (qA c.2),.v (qA c.3),.o 3,.x 4 [],.x 5 [],.x 6 []] 27,.cells [.v (qA 0),.v (qA 0),.v (qA 0),.v (Value.slice none 0 0),.v (Value.slice none 0 0),.v (Value.slice none 0 0),.v (Value.slice none 0 0)] 27,.rowc 113 7 c.4.length (.fn (cN c.4)),.ext false (.s false 1 c.5.length (cI c.5)),.ext false (.s false 2 c.6.length (cL c.6)),.ext false (.s false 2 c.7.length (cK c.7))]) else(∀ M:Mem,6≤7)∧(∀ M:Mem,(0+List.length c.7)*16≤140737488355328∧0+List.length c.7≤140737488355328)∧(∀ M:Mem,6+1≤7)∧(∀ M:Mem,0+7≤7)∧R (.agg [.v (qA c.1),.v (qA c.2),.v (qA c.3),.o 0,.x 1 [],.o 2,.o 3]) [.rowc 113 7 c.4.length (.fn (cN c.4)),.ext false (.s false 1 c.5.length (cI c.5)),.rowc 86 2 m (.fn (cL ls)),.rowc 139 2 (0+List.length c.7) (.app 0 (.lit 2 []) (.fn (cK c.7)))]):=by kernel_rfl
theorem qZp(c:Cir)(hc:c.ok)(Q:SV→List HO→Prop)(hq:Q (.agg [.v (.int .i64 c.fx),.v (.int .i64 c.ad),.v (.int .i64 c.ins),.o 0,.x 1 [],.o 2,.o 3]) [.rowc 113 7 c.nodes.length (.fn (cN c.nodes)),.ext false (.s false 1 c.gates.length (cI c.gates)),.rowc 86 2 c.looks.length (.fn (cL c.looks)),.rowc 139 2 (0+c.eqs.length) (.app 0 (.lit 2 []) (.fn (cK c.eqs)))]):∀(d k:Nat) (ls:List (List Int×List Int)),k+d=c.looks.length→ls=c.looks.take k →
  FOk Try.prog Try.f13 Q (.rnd [0,0,1,0,1,1,1,1] (d+1)::[.blk 0,.at [1,1,1,1,1]]) ⟨[(4,.v (.int .i64 (k:Int))),(3,.o 0),(1,.p 1 0),(2,.p 2 0)],[.rowc 86 2 k (.fn (cL ls)),.cells [.v (.int .i64 c.fx),.v (.int .i64 c.ad),.v (.int .i64 c.ins),.o 3,.x 4 [],.x 5 [],.x 6 []] 27,.cells [.v (.int .i64 0),.v (.int .i64 0),.v (.int .i64 0),.v (.slice none 0 0),.v (.slice none 0 0),.v (.slice none 0 0),.v (.slice none 0 0)] 27,.rowc 113 7 c.nodes.length (.fn (cN c.nodes)),.ext false (.s false 1 c.gates.length (cI c.gates)),.ext false (.s false 2 c.looks.length (cL c.looks)),.ext false (.s false 2 c.eqs.length (cK c.eqs))]⟩
 | 0,k,ls,hd,he=>by
  have h1:=hc.e.2
  refine FOk.rnd (qE hm 60 ((ccR c ls k k 0 _ _).mpr ⟨?_⟩))
  rw[qF,if_neg (by omega)]
  rw[show k=c.looks.length by omega,List.take_length] at he
  subst he
  rw[show k=c.looks.length by omega]
  exact aI (aI (aI (And.intro (fun _=>by omega) hq)))
 | d+1,k,ls,hd,he=>by
  have hk:k<c.looks.length:=by omega
  have h1:=hc.l.2
  obtain⟨⟨_,g1⟩,⟨_,g2⟩⟩:=hc.l.1 _ (qSe hk)
  have hlen:ls.length=k:=by rw[he,List.length_take]; omega
  refine FOk.rnd (qE hm 60 ((ccR c ls k k (d+1) _ _).mpr ⟨?_⟩))
  rw[qF,if_pos (by omega),qN _ (by omega)]
  refine aI (aI (aI (aI (aI (aI (aI (⟨⟨(gL c.looks k).1,rfl,IsC.refl _ _ _,by omega,And.intro (fun _=>hk) ⟨⟨(gL c.looks k).2,rfl,IsC.refl _ _ _,by omega,And.intro (fun _=>by omega) ?_⟩⟩⟩⟩)))))))
  exact FOk.cv (qZp c hc Q hq d (k+1) (ls++[((gL c.looks k).1,(gL c.looks k).2)]) (by omega) (by rw[he,zIh hk])) ⟨⟨rfl,rfl,rfl,zIn _ _ hlen⟩,HE.refl _,HE.refl _,HE.refl _,HE.refl _,HE.refl _,HE.refl _,trivial⟩
theorem bCc:Try.f13.body.isSome=true:=by kernel_rfl
theorem nCc(c:Cir):Nat.ble [(.agg [.v (.int .i64 c.fx),.v (.int .i64 c.ad),.v (.int .i64 c.ins),.x 0 [],.x 1 [],.x 2 [],.x 3 []]:SV)].length Try.f13.ntmps=true:=by kernel_rfl
theorem zUh(c:Cir)(hc:c.ok)(Q:SV→List HO→Prop)(hq:Q (.agg [.v (.int .i64 c.fx),.v (.int .i64 c.ad),.v (.int .i64 c.ins),.x 0 [],.x 1 [],.x 2 [],.x 3 []]) [.ext false (.s false 7 c.nodes.length (cN c.nodes)),.ext false (.s false 1 c.gates.length (cI c.gates)),.ext false (.s false 2 c.looks.length (cL c.looks)),.ext false (.s false 2 c.eqs.length (cK c.eqs))]):qI Try.prog 13 [.agg [.v (.int .i64 c.fx),.v (.int .i64 c.ad),.v (.int .i64 c.ins),.x 0 [],.x 1 [],.x 2 [],.x 3 []]] [.ext false (.s false 7 c.nodes.length (cN c.nodes)),.ext false (.s false 1 c.gates.length (cI c.gates)),.ext false (.s false 2 c.looks.length (cL c.looks)),.ext false (.s false 2 c.eqs.length (cK c.eqs))] Q:=by
 have h0:qI Try.prog 13 [.agg [.v (.int .i64 c.fx),.v (.int .i64 c.ad),.v (.int .i64 c.ins),.x 0 [],.x 1 [],.x 2 [],.x 3 []]] [.ext false (.s false 7 c.nodes.length (cN c.nodes)),.ext false (.s false 1 c.gates.length (cI c.gates)),.ext false (.s false 2 c.looks.length (cL c.looks)),.ext false (.s false 2 c.eqs.length (cK c.eqs))] (fun r h'=>r=.agg [.v (.int .i64 c.fx),.v (.int .i64 c.ad),.v (.int .i64 c.ins),.o 0,.x 1 [],.o 2,.o 3]∧HEs h' [.rowc 113 7 c.nodes.length (.fn (cN c.nodes)),.ext false (.s false 1 c.gates.length (cI c.gates)),.rowc 86 2 c.looks.length (.fn (cL c.looks)),.rowc 139 2 c.eqs.length (.fn (cK c.eqs))]):=by
  refine qJ Try.func13 bCc ?_ ?_
  ·exact nCc c
  have h1:=hc.n.2
  have h2:=hc.g.2
  refine qE hm 60 ((ccS c _ _).mpr ⟨?_⟩)
  refine⟨c.nodes,rfl,IsC.refl _ _ _,by omega,And.intro (fun _=>by omega) ⟨⟨c.gates,rfl,IsC.refl _ _ _,by omega,And.intro (fun _=>by omega) ?_⟩⟩⟩
  refine FOk.loop (c.looks.length+1) (by kernel_rfl) (FOk.cv (qZp c hc _ ?_ c.looks.length 0 [] (by omega) rfl) ⟨⟨rfl,rfl,rfl,fun k hk=>by omega⟩,HE.refl _,HE.refl _,HE.refl _,HE.refl _,HE.refl _,HE.refl _,trivial⟩)
  exact⟨rfl,HE.refl _,HE.refl _,HE.refl _,⟨rfl,rfl,Nat.zero_add _,fun k hk j hj=>xL _ _ _ (Nat.zero_le _)⟩,trivial⟩
 have h1:=qI.frz1 0 (T:=113) (sz:=7) (n:=c.nodes.length) (c:=.fn (cN c.nodes)) (by kernel_rfl) (qI.eqv h0)
 have h2:=qI.frz1 2 (T:=86) (sz:=2) (n:=c.looks.length) (c:=.fn (cL c.looks)) (by kernel_rfl) h1
 have h3:=qI.frz1 3 (T:=139) (sz:=2) (n:=c.eqs.length) (c:=.fn (cK c.eqs)) (by kernel_rfl) h2
 have h2:=qI.gc (r1:=.agg [.v (.int .i64 c.fx),.v (.int .i64 c.ad),.v (.int .i64 c.ins),.x 0 [],.x 1 [],.x 2 [],.x 3 []]) (h1:=[.ext false (.s false 7 c.nodes.length (cN c.nodes)),.ext false (.s false 1 c.gates.length (cI c.gates)),.ext false (.s false 2 c.looks.length (cL c.looks)),.ext false (.s false 2 c.eqs.length (cK c.eqs))]) (by kernel_rfl) h3
 exact qI.mono h2 fun r h' hh=>by rw[hh.1,hh.2]; exact hq
noncomputable def gCc:List SV→List HO→Option ((SV→List HO→Prop)→Prop)
 | [.agg [.v (.int .i64 fx),.v (.int .i64 ad),.v (.int .i64 ins),.x 0 [],.x 1 [],.x 2 [],.x 3 []]],[.ext false (.s false 7 n0 c0),.ext false (.s false 1 n1 c1),.ext false (.s false 2 n2 c2),.ext false (.s false 2 n3 c3)] =>
  some fun Q=>lC fx ad ins n0 n1 n2 n3 c0 c1 c2 c3 fun c=>Q (.agg [.v (.int .i64 c.fx),.v (.int .i64 c.ad),.v (.int .i64 c.ins),.x 0 [],.x 1 [],.x 2 [],.x 3 []]) [.ext false (.s false 7 c.nodes.length (cN c.nodes)),.ext false (.s false 1 c.gates.length (cI c.gates)),.ext false (.s false 2 c.looks.length (cL c.looks)),.ext false (.s false 2 c.eqs.length (cK c.eqs))]
 | _,_=>none
theorem zRj(args:List SV)(h:List HO)(tr:(SV→List HO→Prop)→Prop)(Q:SV→List HO→Prop)(hc:gCc args h=some tr)(ht:tr Q):qI Try.prog 13 args h Q:=by
 unfold gCc at hc
 split at hc
 ·rename_i fx ad ins n0 c0 n1 c1 n2 c2 n3 c3
  simp only[sI] at hc
  subst hc
  obtain⟨c,rfl,rfl,rfl,⟨rfl,e0⟩,⟨rfl,e1⟩,⟨rfl,e2⟩,⟨rfl,e3⟩,hk,hq⟩:=ht.h
  exact qI.ac (zUh c hk Q hq) ⟨⟨rfl,rfl,rfl,rfl,e0⟩,⟨rfl,rfl,rfl,rfl,e1⟩,⟨rfl,rfl,rfl,rfl,e2⟩,⟨rfl,rfl,rfl,rfl,e3⟩,trivial⟩
 ·cases hc
noncomputable def K45:Con Try.prog:=K44.add 13 gCc zRj
end Go.Proofs.Ytlmjdcbhpffanaa
/- The queries of a cone. -/
namespace Go.Pl
open Go.Sx
def qTn(ns:List Nd)(pl:List Int):List Nd:=pl.map fun i=>gN ns i.toNat
def wI(c:Cir)(x:Int):List (Int×Int×Int):=qsN [] (qTn c.nodes (yG c.nodes x))
theorem zDr(l:List Nd)(root:Int):∀ x∈yG l root,0≤x∧x<(l.length:Int):=by
 intro x hx
 have hne:yG l root≠[]:=fun h=>by rw[h] at hx; cases hx
 obtain⟨ho,h0,h1⟩:=zCg hne
 rw[zIc ho h0 h1,List.mem_map] at hx
 obtain⟨i,hi,rfl⟩:=hx
 rw[List.mem_filter,List.mem_range] at hi
 omega
theorem zBo{l:List Int}{k:Nat}(h:k<l.length):l.take (k+1)=l.take k++[gI l k]:=by
 rw[List.take_add_one,List.getElem?_eq_getElem h,gI,List.getD_eq_getElem?_getD,List.getElem?_eq_getElem h]
 rfl
theorem zCp{ns:List Nd}{pl:List Int}{k:Nat}(h:k<pl.length):qTn ns (pl.take (k+1))=qTn ns (pl.take k)++[gN ns (gI pl k).toNat]:=by
 rw[zBo h,qTn,List.map_append]; rfl
theorem qHv(ns:List Nd)(pl:List Int):(qTn ns pl).length=pl.length:=by rw[qTn,List.length_map]
end Go.Pl
namespace Go.Proofs.Ytlmjdcbhpffanaa
open Go.Sx Go.Pl
set_option linter.unusedVariables false
set_option maxRecDepth 100000
theorem zZp(b0 b1 b2 b3:Bool)(c:Cir)(x:Int)(K:List It→St→Prop)(R:SV→List HO→Prop):W (xwp Try.prog X K45 [] 60 (qO Try.f55 [] [⟨[0,1,0,1,1],[13,12,11,5,2],[(5,113,7)]⟩]) [] [.at []] ⟨qQ 0 [.agg [.v (.int .i64 c.fx),.v (.int .i64 c.ad),.v (.int .i64 c.ins),.x 0 [],.x 1 [],.x 2 [],.x 3 []],.v (.int .i64 x)],[.ext b0 (.s false 7 c.nodes.length (cN c.nodes)),.ext b1 (.s false 1 c.gates.length (cI c.gates)),.ext b2 (.s false 2 c.looks.length (cL c.looks)),.ext b3 (.s false 2 c.eqs.length (cK c.eqs))]⟩ K R)=W (∃(l:List Nd),List.length c.4=List.length l∧IsC c.4.length 7 (cN c.4) (cN l)∧List.length l≤2513169434916∧K [.at [0,1,0,1,1],.blk 0,.at [1,1,1]] (St.mk [(13,.v (qA 0)),(12,.v (qA (↑(List.length (yG l x)):Int))),(11,.o 0),(5,.o 1),(2,.p 2 0)] [.rowc 3 1 (List.length (yG l x)) (.fn (cI (yG l x))),.rowc 113 7 0 (.lit 1 []),.cells [.v (qA c.1),.v (qA c.2),.v (qA c.3),.x 3 [],.x 4 [],.x 5 [],.x 6 []] 27,.ext b0 (.s false 7 c.4.length (cN c.4)),.ext b1 (.s false 1 c.5.length (cI c.5)),.ext b2 (.s false 2 c.6.length (cL c.6)),.ext b3 (.s false 2 c.7.length (cK c.7))])):=by kernel_rfl
theorem zVa(b0 b1 b2 b3:Bool)(c:Cir)(pl:List Int)(ls:List Nd)(m k M:Nat)(K:List It→St→Prop)(R:SV→List HO→Prop):W (xwp Try.prog X K45 [] 60 (qO Try.f55 [] [⟨[0,1,0,1,1],[13,12,11,5,2],[(5,113,7)]⟩]) [] (.at [0,0,1,0,1,1]::.rnd [0,0,1,0,1,1] M::[.blk 0,.at [1,1,1]]) ⟨[(13,.v (.int .i64 (k:Int))),(12,.v (.int .i64 (pl.length:Int))),(11,.o 0),(5,.o 1),(2,.p 2 0)],[.rowc 3 1 pl.length (.fn (cI pl)),.rowc 113 7 m (.fn (cN ls)),.cells [.v (.int .i64 c.fx),.v (.int .i64 c.ad),.v (.int .i64 c.ins),.x 3 [],.x 4 [],.x 5 [],.x 6 []] 27,.ext b0 (.s false 7 c.nodes.length (cN c.nodes)),.ext b1 (.s false 1 c.gates.length (cI c.gates)),.ext b2 (.s false 2 c.looks.length (cL c.looks)),.ext b3 (.s false 2 c.eqs.length (cK c.eqs))]⟩ K R)=W (bif decide ((↑k:Int)<(↑pl.length:Int)) then(∀ M:Mem,(0:Int)≤(↑k:Int)∧(↑k:Int)<(↑pl.length:Int))∧(∀ M:Mem,k<List.length pl)∧(∀ M:Mem,(0:Int)≤gI pl k∧gI pl k<(↑c.4.length:Int))∧(∀ M:Mem,Int.toNat (gI pl k)<List.length c.4)∧(∀ M:Mem,(m+1)*56≤140737488355328∧m+1≤140737488355328)∧K [.rnd [0,0,1,0,1,1] M,.blk 0,.at [1,1,1]] (St.mk [(13,.v (qA (IntKind.wrap .i64 ((↑k:Int)+(1:Int))))),(12,.v (qA (↑pl.length:Int))),(11,.o 0),(5,.o 1),(2,.p 2 0)] [.rowc 3 1 pl.length (.fn (cI pl)),.rowc 113 7 (m+1) (.app m (.fn (cN ls)) (.lit 7 [.v (qA (gN c.4 (Int.toNat (gI pl k))).1),.v (qA (gN c.4 (Int.toNat (gI pl k))).2),.v (qA (gN c.4 (Int.toNat (gI pl k))).3),.v (qD (↑(qC (gN c.4 (Int.toNat (gI pl k))).4 0):Int)),.v (qD (↑(qC (gN c.4 (Int.toNat (gI pl k))).4 1):Int)),.v (qD (↑(qC (gN c.4 (Int.toNat (gI pl k))).4 2):Int)),.v (qD (↑(qC (gN c.4 (Int.toNat (gI pl k))).4 3):Int))])),.cells [.v (qA c.1),.v (qA c.2),.v (qA c.3),.x 3 [],.x 4 [],.x 5 [],.x 6 []] 27,.ext b0 (.s false 7 c.4.length (cN c.4)),.ext b1 (.s false 1 c.5.length (cI c.5)),.ext b2 (.s false 2 c.6.length (cL c.6)),.ext b3 (.s false 2 c.7.length (cK c.7))]) else ∃(l:List Nd),m=List.length l∧IsC m 7 (cN ls) (cN l)∧List.length l≤4000000000000∧R (.o 0) [.rowc 128 3 (List.length (qsN [] l)) (.fn (cQ (qsN [] l)))]):=by kernel_rfl
theorem qWb(b0 b1 b2 b3:Bool)(c:Cir)(hc:c.ok)(x:Int)(pl:List Int)(hp:pl=yG c.nodes x)(Q:SV→List HO→Prop)(hq:Q (.o 0) [.rowc 128 3 (wI c x).length (.fn (cQ (wI c x)))]):∀(d k:Nat) (ls:List Nd),k+d=pl.length→ls=qTn c.nodes (pl.take k) →
  FOk Try.prog Try.f55 Q (.rnd [0,0,1,0,1,1] (d+1)::[.blk 0,.at [1,1,1]]) ⟨[(13,.v (.int .i64 (k:Int))),(12,.v (.int .i64 (pl.length:Int))),(11,.o 0),(5,.o 1),(2,.p 2 0)],[.rowc 3 1 pl.length (.fn (cI pl)),.rowc 113 7 k (.fn (cN ls)),.cells [.v (.int .i64 c.fx),.v (.int .i64 c.ad),.v (.int .i64 c.ins),.x 3 [],.x 4 [],.x 5 [],.x 6 []] 27,.ext b0 (.s false 7 c.nodes.length (cN c.nodes)),.ext b1 (.s false 1 c.gates.length (cI c.gates)),.ext b2 (.s false 2 c.looks.length (cL c.looks)),.ext b3 (.s false 2 c.eqs.length (cK c.eqs))]⟩
 | 0,k,ls,hd,he=>by
  have h1:=hc.n.2
  have h2:=qIt c.nodes x
  refine FOk.rnd (qE hm 60 ((zVa b0 b1 b2 b3 c pl ls k k 0 _ _).mpr ⟨?_⟩))
  rw[qF,if_neg (by omega)]
  rw[show k=pl.length by omega,List.take_length] at he
  refine⟨ls,by rw[he,qHv]; omega,IsC.refl _ _ _,by rw[he,qHv,hp]; omega,?_⟩
  rw[he,hp]
  exact hq
 | d+1,k,ls,hd,he=>by
  have hk:k<pl.length:=by omega
  have h1:=hc.n.2
  have h2:=qIt c.nodes x
  have hpl:pl.length≤c.nodes.length:=by rw[hp]; exact h2
  obtain⟨g1,g2⟩:=zDr c.nodes x (gI pl k) (by rw[← hp]; exact qXo hk)
  have hlen:ls.length=k:=by rw[he,qHv,List.length_take]; omega
  refine FOk.rnd (qE hm 60 ((zVa b0 b1 b2 b3 c pl ls k k (d+1) _ _).mpr ⟨?_⟩))
  rw[qF,if_pos (by omega),qN _ (by omega)]
  refine aI (aI (aI (aI (aI (?_)))))
  exact FOk.cv (qWb b0 b1 b2 b3 c hc x pl hp Q hq d (k+1) (ls++[gN c.nodes (gI pl k).toNat]) (by omega) (by rw[he,zCp hk])) ⟨HE.refl _,⟨rfl,rfl,rfl,zHi _ _ hlen rfl⟩,HE.refl _,HE.refl _,HE.refl _,HE.refl _,HE.refl _,trivial⟩
theorem zWo:Try.f55.body.isSome=true:=by kernel_rfl
theorem jAd(c:Cir)(x:Int):Nat.ble [(.agg [.v (.int .i64 c.fx),.v (.int .i64 c.ad),.v (.int .i64 c.ins),.x 0 [],.x 1 [],.x 2 [],.x 3 []]:SV),.v (.int .i64 x)].length Try.f55.ntmps=true:=by kernel_rfl
theorem zLw(b0 b1 b2 b3:Bool)(c:Cir)(hc:c.ok)(x:Int)(Q:SV→List HO→Prop)(hq:Q (.o 0) [.rowc 128 3 (wI c x).length (.fn (cQ (wI c x)))]):qI Try.prog 55 [.agg [.v (.int .i64 c.fx),.v (.int .i64 c.ad),.v (.int .i64 c.ins),.x 0 [],.x 1 [],.x 2 [],.x 3 []],.v (.int .i64 x)] [.ext b0 (.s false 7 c.nodes.length (cN c.nodes)),.ext b1 (.s false 1 c.gates.length (cI c.gates)),.ext b2 (.s false 2 c.looks.length (cL c.looks)),.ext b3 (.s false 2 c.eqs.length (cK c.eqs))] Q:=by
 refine qJ Try.func55 zWo ?_ ?_
 ·exact jAd c x
 have h1:=hc.n.2
 refine qE hm 60 ((zZp b0 b1 b2 b3 c x _ _).mpr ⟨?_⟩)
 refine⟨c.nodes,rfl,IsC.refl _ _ _,by omega,?_⟩
 exact FOk.loop ((yG c.nodes x).length+1) (by kernel_rfl) (FOk.cv (qWb b0 b1 b2 b3 c hc x _ rfl Q hq (yG c.nodes x).length 0 [] (by omega) rfl) ⟨HE.refl _,⟨rfl,rfl,rfl,fun k hk=>by omega⟩,HE.refl _,HE.refl _,HE.refl _,HE.refl _,HE.refl _,trivial⟩)
noncomputable def zLy:List SV→List HO→Option ((SV→List HO→Prop)→Prop)
 | [.agg [.v (.int .i64 fx),.v (.int .i64 ad),.v (.int .i64 ins),.x 0 [],.x 1 [],.x 2 [],.x 3 []],.v (.int .i64 x)],[.ext _ (.s false 7 n0 c0),.ext _ (.s false 1 n1 c1),.ext _ (.s false 2 n2 c2),.ext _ (.s false 2 n3 c3)] =>
  some fun Q=>lC fx ad ins n0 n1 n2 n3 c0 c1 c2 c3 fun c=>Q (.o 0) [.rowc 128 3 (wI c x).length (.fn (cQ (wI c x)))]
 | _,_=>none
theorem zHk(args:List SV)(h:List HO)(tr:(SV→List HO→Prop)→Prop)(Q:SV→List HO→Prop)(hc:zLy args h=some tr)(ht:tr Q):qI Try.prog 55 args h Q:=by
 unfold zLy at hc
 split at hc
 ·simp only[sI] at hc
  subst hc
  obtain⟨c,rfl,rfl,rfl,⟨rfl,e0⟩,⟨rfl,e1⟩,⟨rfl,e2⟩,⟨rfl,e3⟩,hk,hq⟩:=ht.h
  exact qI.ac (zLw _ _ _ _ c hk _ Q hq) ⟨⟨rfl,rfl,rfl,rfl,e0⟩,⟨rfl,rfl,rfl,rfl,e1⟩,⟨rfl,rfl,rfl,rfl,e2⟩,⟨rfl,rfl,rfl,rfl,e3⟩,trivial⟩
 ·cases hc
noncomputable def K46:Con Try.prog:=(K45).add 55 zLy zHk
end Go.Proofs.Ytlmjdcbhpffanaa
/- Cones without rotations. -/
namespace Go.Pl
open Go.Sx
def qUk(q:Int×Int×Int):Bool:=!(q.2.2==(0:Int))
def xJ(c:Cir)(x:Int):Bool:=decide (0≤x∧x<(c.nodes.length:Int))&&!(wI c x).any qUk
structure lQ (n : Nat) (c : Nat → Nat → qB) (k : List (Int × Int × Int) → Prop) : Prop where
  h : ∃ l : List (Int × Int × Int), n = l.length ∧ IsC n 3 c (cQ l) ∧ l.length ≤ 4398046511104 ∧ k l
theorem qPi(c:Cir)(x:Int):(wI c x).length≤c.nodes.length:=by
 have h1:=qRb (qTn c.nodes (yG c.nodes x)) []
 have h2:=qIt c.nodes x
 rw[qHv,List.length_nil] at h1
 rw[wI]
 omega
end Go.Pl
namespace Go.Proofs.Ytlmjdcbhpffanaa
open Go.Sx Go.Pl
set_option linter.unusedVariables false
set_option maxRecDepth 100000
theorem iqR(b:Bool)(l:List (Int×Int×Int))(k M:Nat)(K:List It→St→Prop)(R:SV→List HO→Prop):W (xwp Try.prog X K46 [(111,[])] 60 (qO Try.f114 [] [⟨[0,1,0,1],[8,7,0,1],[]⟩]) [] (.at [0,0,1,0,1]::.rnd [0,0,1,0,1] M::[.blk 0,.at [1,1]]) ⟨[(8,.v (.int .i64 (k:Int))),(7,.v (.int .i64 (l.length:Int))),(0,.x 0 []),(1,.fn (.func 111) [] [])],[.ext b (.s false 3 l.length (cQ l))]⟩ K R)=W (bif decide ((↑k:Int)<(↑l.length:Int)) then(∀ M:Mem,(0:Int)≤(↑k:Int)∧(↑k:Int)<(↑l.length:Int))∧(∀ M:Mem,k<List.length l)∧bif !(gQ l k).2.2==(0:Int) then R (.v (qA (↑k:Int))) [] else K [.rnd [0,0,1,0,1] M,.blk 0,.at [1,1]] (St.mk [(8,.v (qA (IntKind.wrap .i64 ((↑k:Int)+(1:Int))))),(7,.v (qA (↑l.length:Int))),(0,.x 0 []),(1,SV.fn (Fn.func 111) [] [])] [.ext b (.s false 3 l.length (cQ l))]) else R (.v (qA (-1))) []):=by kernel_rfl
theorem iqS(b:Bool)(l:List (Int×Int×Int))(K:List It→St→Prop)(R:SV→List HO→Prop):W (xwp Try.prog X K46 [(111,[])] 60 (qO Try.f114 [] [⟨[0,1,0,1],[8,7,0,1],[]⟩]) [] [.at []] ⟨qQ 0 [.x 0 [],.fn (.func 111) [] []],[.ext b (.s false 3 l.length (cQ l))]⟩ K R)=W (K [.at [0,1,0,1],.blk 0,.at [1,1]] (St.mk [(8,.v (qA 0)),(7,.v (qA (↑l.length:Int))),(0,.x 0 []),(1,SV.fn (Fn.func 111) [] [])] [.ext b (.s false 3 l.length (cQ l))])):=by kernel_rfl
theorem zBi(b:Bool)(l:List (Int×Int×Int))(hb:l.length≤4398046511104)(Q:SV→List HO→Prop):∀(d k:Nat),k+d=l.length→Q (.v (.int .i64 (qX qUk k (l.drop k)))) [] →
  FOk Try.prog Try.f114 Q (.rnd [0,0,1,0,1] (d+1)::[.blk 0,.at [1,1]]) ⟨[(8,.v (.int .i64 (k:Int))),(7,.v (.int .i64 (l.length:Int))),(0,.x 0 []),(1,.fn (.func 111) [] [])],[.ext b (.s false 3 l.length (cQ l))]⟩
 | 0,k,hd,hq=>by
  refine FOk.rnd (qE hm 60 ((iqR b l k 0 _ _).mpr ⟨?_⟩))
  rw[qF,if_neg (by omega)]
  rw[show k=l.length by omega,List.drop_length] at hq
  exact hq
 | d+1,k,hd,hq=>by
  have hk:k<l.length:=by omega
  refine FOk.rnd (qE hm 60 ((iqR b l k (d+1) _ _).mpr ⟨?_⟩))
  rw[qF,if_pos (by omega),qN _ (by omega)]
  rw[qPa hk] at hq
  refine aI (aI (qK (fun h=>?_) (fun h=>?_)))
  ·rw[if_pos (show qUk (gQ l k)=true from h)] at hq
   exact hq
  ·rw[if_neg (show ¬ qUk (gQ l k)=true by rw[qUk,h]; decide)] at hq
   exact zBi b l hb Q d (k+1) (by omega) hq
theorem bIq:Try.f114.body.isSome=true:=by kernel_rfl
theorem nIq:Nat.ble [SV.x 0 [],.fn (.func 111) [] []].length Try.f114.ntmps=true:=by kernel_rfl
theorem zTd(b:Bool)(l:List (Int×Int×Int))(hb:l.length≤4398046511104)(Q:SV→List HO→Prop)(hq:Q (.v (.int .i64 (qX qUk 0 l))) []):qI Try.prog 114 [.x 0 [],.fn (.func 111) [] []] [.ext b (.s false 3 l.length (cQ l))] Q:=by
 refine qJ Try.func114 bIq ?_ ?_
 ·exact nIq
 refine qE hm 60 ((iqS b l _ _).mpr ⟨?_⟩)
 exact FOk.loop (l.length+1) (by kernel_rfl) (zBi b l hb Q l.length 0 (by omega) hq)
noncomputable def gIq:List SV→List HO→Option ((SV→List HO→Prop)→Prop)
 | [.x 0 [],.fn (.func 111) [] []],[.ext _ (.s false 3 n c)]=>some fun Q=>lQ n c fun l=>Q (.v (.int .i64 (qX qUk 0 l))) []
 | _,_=>none
theorem zMk(args:List SV)(h:List HO)(tr:(SV→List HO→Prop)→Prop)(Q:SV→List HO→Prop)(hc:gIq args h=some tr)(ht:tr Q):qI Try.prog 114 args h Q:=by
 unfold gIq at hc
 split at hc
 ·simp only[sI] at hc
  subst hc
  obtain⟨l,rfl,he,hb,hq⟩:=ht.h
  exact qI.ac (zTd _ l hb Q hq) ⟨⟨rfl,rfl,rfl,rfl,he⟩,trivial⟩
 ·cases hc
noncomputable def K47:Con Try.prog:=(K46).add 114 gIq zMk
end Go.Proofs.Ytlmjdcbhpffanaa
/- The checker: flat, counts. -/
namespace Go.Pl
open Go.Sx
structure lH (fx ad ins : Int) (n0 n1 n2 n3 n4 : Nat) (c0 c1 c2 c3 c4 : Nat → Nat → qB) (k : Cir → List Int → Prop) : Prop where
  h : ∃ (c : Cir) (dg : List Int), fx = c.fx ∧ ad = c.ad ∧ ins = c.ins ∧ (n0 = c.nodes.length ∧ IsC n0 7 c0 (cN c.nodes)) ∧ (n1 = c.gates.length ∧ IsC n1 1 c1 (cI c.gates)) ∧ (n2 = c.looks.length ∧ IsC n2 2 c2 (cL c.looks)) ∧ (n3 = c.eqs.length ∧ IsC n3 2 c3 (cK c.eqs)) ∧ (n4 = dg.length ∧ IsC n4 1 c4 (cI dg)) ∧ c.ok ∧ k c dg
theorem qHw(c:Cir)(dg:List Int)(hc:c.ok){k:Cir→List Int→Prop}(h:k c dg):lH c.fx c.ad c.ins c.nodes.length c.gates.length c.looks.length c.eqs.length dg.length (cN c.nodes) (cI c.gates) (cL c.looks) (cK c.eqs) (cI dg) k :=
 ⟨⟨c,dg,rfl,rfl,rfl,⟨rfl,IsC.refl _ _ _⟩,⟨rfl,IsC.refl _ _ _⟩,⟨rfl,IsC.refl _ _ _⟩,⟨rfl,IsC.refl _ _ _⟩,⟨rfl,IsC.refl _ _ _⟩,hc,h⟩⟩
noncomputable def jX(c:Cir)(dg:List Int)(j:Nat):qB :=
 match j with
 | 0=>.v (.int .i64 c.fx)
 | 1=>.v (.int .i64 c.ad)
 | 2=>.v (.int .i64 c.ins)
 | 3=>.s false 7 c.nodes.length (cN c.nodes)
 | 4=>.s false 1 c.gates.length (cI c.gates)
 | 5=>.s false 2 c.looks.length (cL c.looks)
 | 6=>.s false 2 c.eqs.length (cK c.eqs)
 | 7=>.s false 1 dg.length (cI dg)
 | _=>.v undef
def qQw(c:Cir):Prop:=(0≤c.fx∧c.fx≤8)∧(0≤c.ad∧c.ad≤8)∧(0≤c.ins∧c.ins≤8)∧0<c.ad∧c.gates.length≤16∧c.looks.length≤4∧c.eqs.length≤8
instance (c : Cir) : Decidable (qQw c) := by unfold qQw; exact inferInstance
def qSv(c:Cir):Bool:=decide (qQw c)
end Go.Pl
namespace Go.Proofs.Ytlmjdcbhpffanaa
open Go.Sx Go.Pl
set_option linter.unusedVariables false
set_option maxRecDepth 100000
theorem pfS(b0 b1 b2 b3 b4:Bool)(c:Cir)(dg:List Int)(x:Int)(K:List It→St→Prop)(R:SV→List HO→Prop):W (xwp Try.prog X K47 [(81,[]),(110,[])] 60 (qO Try.f103 [] []) [] [.at []] ⟨qQ 0 [.agg [.v (.int .i64 c.fx),.v (.int .i64 c.ad),.v (.int .i64 c.ins),.x 0 [],.x 1 [],.x 2 [],.x 3 [],.x 4 []],.v (.int .i64 x)],[.ext b0 (.s false 7 c.nodes.length (cN c.nodes)),.ext b1 (.s false 1 c.gates.length (cI c.gates)),.ext b2 (.s false 2 c.looks.length (cL c.looks)),.ext b3 (.s false 2 c.eqs.length (cK c.eqs)),.ext b4 (.s false 1 dg.length (cI dg))]⟩ K R)=W (bif decide ((0:Int)≤x) then bif decide (x<(↑c.4.length:Int)) then lC c.1 c.2 c.3 c.4.length c.5.length c.6.length c.7.length (cN c.4) (cI c.5) (cL c.6) (cK c.7) fun(c:Cir)=>lQ (List.length (wI c x)) (cQ (wI c x)) fun(l:List (Int×Int×Int))=>R (.v (.bool !decide ((0:Int)≤qX qUk 0 l))) [] else R (.v (.bool false)) [] else R (.v (.bool false)) []):=by kernel_rfl
theorem ctS(b0 b1 b2 b3 b4:Bool)(c:Cir)(dg:List Int)(K:List It→St→Prop)(R:SV→List HO→Prop):W (xwp Try.prog X K47 [] 60 (qO Try.f78 [([0,1,0,1],4)] []) [] [.at []] ⟨qQ 0 [.agg [.v (.int .i64 c.fx),.v (.int .i64 c.ad),.v (.int .i64 c.ins),.x 0 [],.x 1 [],.x 2 [],.x 3 [],.x 4 []]],[.ext b0 (.s false 7 c.nodes.length (cN c.nodes)),.ext b1 (.s false 1 c.gates.length (cI c.gates)),.ext b2 (.s false 2 c.looks.length (cL c.looks)),.ext b3 (.s false 2 c.eqs.length (cK c.eqs)),.ext b4 (.s false 1 dg.length (cI dg))]⟩ K R)=W ((∀ M:Mem,(0:Int)≤(0:Int)∧(0:Int)<(3:Int))∧bif decide (c.1<(0:Int)) then R (.v (.bool false)) [] else bif decide ((8:Int)<c.1) then R (.v (.bool false)) [] else(∀ M:Mem,(0:Int)≤(1:Int)∧(1:Int)<(3:Int))∧bif decide (c.2<(0:Int)) then R (.v (.bool false)) [] else bif decide ((8:Int)<c.2) then R (.v (.bool false)) [] else(∀ M:Mem,(0:Int)≤(2:Int)∧(2:Int)<(3:Int))∧bif decide (c.3<(0:Int)) then R (.v (.bool false)) [] else bif decide ((8:Int)<c.3) then R (.v (.bool false)) [] else bif decide ((0:Int)<c.2) then bif decide ((↑c.5.length:Int)≤(16:Int)) then bif decide ((↑c.6.length:Int)≤(4:Int)) then R (.v (.bool (decide ((↑c.7.length:Int)≤(8:Int))))) [] else R (.v (.bool false)) [] else R (.v (.bool false)) [] else R (.v (.bool false)) []):=by kernel_rfl
theorem bPf:Try.f103.body.isSome=true:=by kernel_rfl
theorem nPf(c:Cir)(x:Int):Nat.ble [(.agg [.v (.int .i64 c.fx),.v (.int .i64 c.ad),.v (.int .i64 c.ins),.x 0 [],.x 1 [],.x 2 [],.x 3 [],.x 4 []]:SV),.v (.int .i64 x)].length Try.f103.ntmps=true:=by kernel_rfl
theorem zSn(b0 b1 b2 b3 b4:Bool)(c:Cir)(dg:List Int)(hc:c.ok)(x:Int)(Q:SV→List HO→Prop)(hq:Q (.v (.bool (xJ c x))) []):qI Try.prog 103 [.agg [.v (.int .i64 c.fx),.v (.int .i64 c.ad),.v (.int .i64 c.ins),.x 0 [],.x 1 [],.x 2 [],.x 3 [],.x 4 []],.v (.int .i64 x)] [.ext b0 (.s false 7 c.nodes.length (cN c.nodes)),.ext b1 (.s false 1 c.gates.length (cI c.gates)),.ext b2 (.s false 2 c.looks.length (cL c.looks)),.ext b3 (.s false 2 c.eqs.length (cK c.eqs)),.ext b4 (.s false 1 dg.length (cI dg))] Q:=by
 refine qJ Try.func103 bPf ?_ ?_
 ·exact nPf c x
 have h1:=hc.n.2
 have h2:=qPi c x
 refine qE hm 60 ((pfS b0 b1 b2 b3 b4 c dg x _ _).mpr ⟨?_⟩)
 simp only[qF]
 refine qH (fun h=>qH (fun h3=>?_) (fun h3=>?_)) (fun h=>?_)
 ·refine qLj c hc ⟨⟨_,rfl,IsC.refl _ _ _,by omega,?_⟩⟩
  rw[xJ,decide_eq_true ⟨h,h3⟩,Bool.true_and] at hq
  rw[zU]
  exact hq
 ·rw[xJ,decide_eq_false (fun hh=>h3 hh.2)] at hq
  exact hq
 ·rw[xJ,decide_eq_false (fun hh=>h hh.1)] at hq
  exact hq
noncomputable def gPf:List SV→List HO→Option ((SV→List HO→Prop)→Prop)
 | [.agg [.v (.int .i64 fx),.v (.int .i64 ad),.v (.int .i64 ins),.x 0 [],.x 1 [],.x 2 [],.x 3 [],.x 4 []],.v (.int .i64 x)],[.ext _ (.s false 7 n0 c0),.ext _ (.s false 1 n1 c1),.ext _ (.s false 2 n2 c2),.ext _ (.s false 2 n3 c3),.ext _ (.s false 1 n4 c4)]=>some fun Q=>lH fx ad ins n0 n1 n2 n3 n4 c0 c1 c2 c3 c4 fun c dg=>Q (.v (.bool (xJ c x))) []
 | _,_=>none
theorem zQp(args:List SV)(h:List HO)(tr:(SV→List HO→Prop)→Prop)(Q:SV→List HO→Prop)(hc:gPf args h=some tr)(ht:tr Q):qI Try.prog 103 args h Q:=by
 unfold gPf at hc
 split at hc
 ·simp only[sI] at hc
  subst hc
  obtain⟨c,dg,rfl,rfl,rfl,⟨rfl,e0⟩,⟨rfl,e1⟩,⟨rfl,e2⟩,⟨rfl,e3⟩,⟨rfl,e4⟩,hk,hq⟩:=ht.h
  exact qI.ac (zSn _ _ _ _ _ c dg hk _ Q hq) ⟨⟨rfl,rfl,rfl,rfl,e0⟩,⟨rfl,rfl,rfl,rfl,e1⟩,⟨rfl,rfl,rfl,rfl,e2⟩,⟨rfl,rfl,rfl,rfl,e3⟩,⟨rfl,rfl,rfl,rfl,e4⟩,trivial⟩
 ·cases hc
theorem zYi:Try.f78.body.isSome=true:=by kernel_rfl
theorem zXf(c:Cir):Nat.ble [(.agg [.v (.int .i64 c.fx),.v (.int .i64 c.ad),.v (.int .i64 c.ins),.x 0 [],.x 1 [],.x 2 [],.x 3 [],.x 4 []]:SV)].length Try.f78.ntmps=true:=by kernel_rfl
theorem zWb(b0 b1 b2 b3 b4:Bool)(c:Cir)(dg:List Int)(hc:c.ok)(Q:SV→List HO→Prop)(hq:Q (.v (.bool (qSv c))) []):qI Try.prog 78 [.agg [.v (.int .i64 c.fx),.v (.int .i64 c.ad),.v (.int .i64 c.ins),.x 0 [],.x 1 [],.x 2 [],.x 3 [],.x 4 []]] [.ext b0 (.s false 7 c.nodes.length (cN c.nodes)),.ext b1 (.s false 1 c.gates.length (cI c.gates)),.ext b2 (.s false 2 c.looks.length (cL c.looks)),.ext b3 (.s false 2 c.eqs.length (cK c.eqs)),.ext b4 (.s false 1 dg.length (cI dg))] Q:=by
  refine qJ Try.func78 zYi ?_ ?_
  · exact zXf c
  refine qE hm 60 ((ctS b0 b1 b2 b3 b4 c dg _ _).mpr ⟨?_⟩)
  have yes:qQw c→Q (.v (.bool true)) []:=fun h=>by rw[qSv,decide_eq_true h] at hq; exact hq
  have no:¬ qQw c→Q (.v (.bool false)) []:=fun h=>by rw[qSv,decide_eq_false h] at hq; exact hq
  unfold qQw at yes no
  simp only[qF]
  clear hc hq
  repeat' (first | refine And.intro (fun _=>by omega) ?_ | refine qH (fun _=>?_) (fun _=>?_))
  all_goals first
    | (refine no (fun h=>?_); omega)
    | (by_cases hh:(c.eqs.length:Int)≤8
       · rw[decide_eq_true hh]; refine yes ?_; omega
       · rw[decide_eq_false hh]; refine no (fun h=>?_); omega)
noncomputable def gCt:List SV→List HO→Option ((SV→List HO→Prop)→Prop)
 | [.agg [.v (.int .i64 fx),.v (.int .i64 ad),.v (.int .i64 ins),.x 0 [],.x 1 [],.x 2 [],.x 3 [],.x 4 []]],[.ext _ (.s false 7 n0 c0),.ext _ (.s false 1 n1 c1),.ext _ (.s false 2 n2 c2),.ext _ (.s false 2 n3 c3),.ext _ (.s false 1 n4 c4)]=>some fun Q=>lH fx ad ins n0 n1 n2 n3 n4 c0 c1 c2 c3 c4 fun c dg=>Q (.v (.bool (qSv c))) []
 | _,_=>none
theorem zNq(args:List SV)(h:List HO)(tr:(SV→List HO→Prop)→Prop)(Q:SV→List HO→Prop)(hc:gCt args h=some tr)(ht:tr Q):qI Try.prog 78 args h Q:=by
 unfold gCt at hc
 split at hc
 ·simp only[sI] at hc
  subst hc
  obtain⟨c,dg,rfl,rfl,rfl,⟨rfl,e0⟩,⟨rfl,e1⟩,⟨rfl,e2⟩,⟨rfl,e3⟩,⟨rfl,e4⟩,hk,hq⟩:=ht.h
  exact qI.ac (zWb _ _ _ _ _ c dg hk Q hq) ⟨⟨rfl,rfl,rfl,rfl,e0⟩,⟨rfl,rfl,rfl,rfl,e1⟩,⟨rfl,rfl,rfl,rfl,e2⟩,⟨rfl,rfl,rfl,rfl,e3⟩,⟨rfl,rfl,rfl,rfl,e4⟩,trivial⟩
 ·cases hc
noncomputable def K48:Con Try.prog:=(K47.add 103 gPf zQp).add 78 gCt zNq
end Go.Proofs.Ytlmjdcbhpffanaa
/- The checker: the greatest degree; the first place that is wrong. -/
namespace Go.Pl
open Go.Sx
def gtN(dg l:List Int):Int:=l.foldl (fun m g=>if m<gI dg g.toNat then gI dg g.toNat else m) 0
structure lG (dn n : Nat) (c : Nat → Nat → qB) (k : List Int → Prop) : Prop where
  h : ∃ l : List Int, n = l.length ∧ IsC n 1 c (cI l) ∧ l.length ≤ 17592186043904 ∧ (∀ g ∈ l, 0 ≤ g ∧ g < (dn : Int)) ∧ k l
structure lKc (ck : Nat → Nat → qB) (k : Cir → List Int → Prop) : Prop where
  h : ∃ (c : Cir) (dg : List Int), IsC 1 8 ck (fun _ j => jX c dg j) ∧ c.ok ∧ k c dg
def wQ(c:Cir)(x:Int):Bool:=decide (0≤x∧x<(c.nodes.length:Int))
theorem qKx{p:Int→Bool}{l:List Int}{k:Nat}(h:k<l.length):qX p k (l.drop k)=if p (gI l k) then(k:Int) else qX p (k+1) (l.drop (k+1)):=by
 rw[List.drop_eq_getElem_cons h,qX,gI,List.getD_eq_getElem?_getD,List.getElem?_eq_getElem h]; rfl
theorem zGk{dg l:List Int}{k:Nat}(h:k<l.length):gtN dg (l.take (k+1))=if gtN dg (l.take k)<gI dg (gI l k).toNat then gI dg (gI l k).toNat else gtN dg (l.take k):=by
 rw[zBo h,gtN,List.foldl_append]; rfl
end Go.Pl
namespace Go.Proofs.Ytlmjdcbhpffanaa
open Go.Sx Go.Pl
set_option linter.unusedVariables false
set_option maxRecDepth 100000
theorem gtS(b0 b1 b2 b3 b4:Bool)(c:Cir)(dg:List Int)(b5:Bool)(l:List Int)(K:List It→St→Prop)(R:SV→List HO→Prop):W (xwp Try.prog X K48 [] 60 (qO Try.f104 [] [⟨[0,1,0,1,1],[10,9,8,5,2],[]⟩]) [] [.at []] ⟨qQ 0 [.agg [.v (.int .i64 c.fx),.v (.int .i64 c.ad),.v (.int .i64 c.ins),.x 0 [],.x 1 [],.x 2 [],.x 3 [],.x 4 []],.x 5 []],[.ext b0 (.s false 7 c.nodes.length (cN c.nodes)),.ext b1 (.s false 1 c.gates.length (cI c.gates)),.ext b2 (.s false 2 c.looks.length (cL c.looks)),.ext b3 (.s false 2 c.eqs.length (cK c.eqs)),.ext b4 (.s false 1 dg.length (cI dg)),.ext b5 (.s false 1 l.length (cI l))]⟩ K R)=W (K [.at [0,1,0,1,1],.blk 0,.at [1,1,1]] (St.mk [(10,.v (qA 0)),(9,.v (qA (↑l.length:Int))),(8,.x 0 []),(5,.v (qA 0)),(2,.p 1 0)] [.ext b5 (.s false 1 l.length (cI l)),.cells [.v (qA c.1),.v (qA c.2),.v (qA c.3),.x 2 [],.x 3 [],.x 4 [],.x 5 [],.x 6 []] 160,.ext b0 (.s false 7 c.4.length (cN c.4)),.ext b1 (.s false 1 c.5.length (cI c.5)),.ext b2 (.s false 2 c.6.length (cL c.6)),.ext b3 (.s false 2 c.7.length (cK c.7)),.ext b4 (.s false 1 dg.length (cI dg))])):=by kernel_rfl
theorem gtR(b0 b1 b2 b3 b4:Bool)(c:Cir)(dg:List Int)(b5:Bool)(l:List Int)(m:Int)(k M:Nat)(K:List It→St→Prop)(R:SV→List HO→Prop):W (xwp Try.prog X K48 [] 60 (qO Try.f104 [] [⟨[0,1,0,1,1],[10,9,8,5,2],[]⟩]) [] (.at [0,0,1,0,1,1]::.rnd [0,0,1,0,1,1] M::[.blk 0,.at [1,1,1]]) ⟨[(10,.v (.int .i64 (k:Int))),(9,.v (.int .i64 (l.length:Int))),(8,.x 0 []),(5,.v (.int .i64 m)),(2,.p 1 0)],[.ext b5 (.s false 1 l.length (cI l)),.cells [.v (.int .i64 c.fx),.v (.int .i64 c.ad),.v (.int .i64 c.ins),.x 2 [],.x 3 [],.x 4 [],.x 5 [],.x 6 []] 160,.ext b0 (.s false 7 c.nodes.length (cN c.nodes)),.ext b1 (.s false 1 c.gates.length (cI c.gates)),.ext b2 (.s false 2 c.looks.length (cL c.looks)),.ext b3 (.s false 2 c.eqs.length (cK c.eqs)),.ext b4 (.s false 1 dg.length (cI dg))]⟩ K R)=W (bif decide ((↑k:Int)<(↑l.length:Int)) then(∀ M:Mem,(0:Int)≤(↑k:Int)∧(↑k:Int)<(↑l.length:Int))∧(∀ M:Mem,k<List.length l)∧(∀ M:Mem,(0:Int)≤gI l k∧gI l k<(↑dg.length:Int))∧(∀ M:Mem,Int.toNat (gI l k)<List.length dg)∧K [.rnd [0,0,1,0,1,1] M,.blk 0,.at [1,1,1]] (St.mk [(10,.v (qA (IntKind.wrap .i64 ((↑k:Int)+(1:Int))))),(9,.v (qA (↑l.length:Int))),(8,.x 0 []),(5,.v (qA (if m<gI dg (Int.toNat (gI l k)) then gI dg (Int.toNat (gI l k)) else m))),(2,.p 1 0)] [.ext b5 (.s false 1 l.length (cI l)),.cells [.v (qA c.1),.v (qA c.2),.v (qA c.3),.x 2 [],.x 3 [],.x 4 [],.x 5 [],.x 6 []] 160,.ext b0 (.s false 7 c.4.length (cN c.4)),.ext b1 (.s false 1 c.5.length (cI c.5)),.ext b2 (.s false 2 c.6.length (cL c.6)),.ext b3 (.s false 2 c.7.length (cK c.7)),.ext b4 (.s false 1 dg.length (cI dg))]) else R (.v (qA m)) []):=by kernel_rfl
theorem ijS(b:Bool)(l:List Int)(c:Cir)(dg:List Int)(K:List It→St→Prop)(R:SV→List HO→Prop):W (xwp Try.prog X K48 [(80,[]),(81,[])] 60 (qO Try.f100 [] [⟨[0,1,0,1],[8,7,0,1],[]⟩]) [] [.at []] ⟨qQ 0 [.x 0 [],.fn (.func 80) [] [.x 1 []]],[.ext b (.s false 1 l.length (cI l)),.ext true (.s true 8 1 (fun _ j=>jX c dg j))]⟩ K R)=W (K [.at [0,1,0,1],.blk 0,.at [1,1]] (St.mk [(8,.v (qA 0)),(7,.v (qA (↑l.length:Int))),(0,.x 0 []),(1,SV.fn (Fn.func 80) [] [.x 1 []])] [.ext b (.s false 1 l.length (cI l)),.ext true (.s true 8 1 fun(x j:Nat)=>jX c dg j)])):=by kernel_rfl
theorem ijR(b:Bool)(l:List Int)(c:Cir)(dg:List Int)(k M:Nat)(K:List It→St→Prop)(R:SV→List HO→Prop):W (xwp Try.prog X K48 [(80,[]),(81,[])] 60 (qO Try.f100 [] [⟨[0,1,0,1],[8,7,0,1],[]⟩]) [] (.at [0,0,1,0,1]::.rnd [0,0,1,0,1] M::[.blk 0,.at [1,1]]) ⟨[(8,.v (.int .i64 (k:Int))),(7,.v (.int .i64 (l.length:Int))),(0,.x 0 []),(1,.fn (.func 80) [] [.x 1 []])],[.ext b (.s false 1 l.length (cI l)),.ext true (.s true 8 1 (fun _ j=>jX c dg j))]⟩ K R)=W (bif decide ((↑k:Int)<(↑l.length:Int)) then(∀ M:Mem,(0:Int)≤(↑k:Int)∧(↑k:Int)<(↑l.length:Int))∧(∀ M:Mem,k<List.length l)∧(∀ M:Mem,0<1)∧(∀ M:Mem,0<1)∧(∀ M:Mem,0<1)∧(∀ M:Mem,0<1)∧(∀ M:Mem,0<1)∧(∀ M:Mem,0<1)∧bif decide ((0:Int)≤gI l k) then bif !decide (gI l k<(↑c.4.length:Int)) then R (.v (qA (↑k:Int))) [] else K [.rnd [0,0,1,0,1] M,.blk 0,.at [1,1]] (St.mk [(8,.v (qA (IntKind.wrap .i64 ((↑k:Int)+(1:Int))))),(7,.v (qA (↑l.length:Int))),(0,.x 0 []),(1,SV.fn (Fn.func 80) [] [.x 1 []])] [.ext b (.s false 1 l.length (cI l)),.ext true (.s true 8 1 fun(x j:Nat)=>jX c dg j)]) else R (.v (qA (↑k:Int))) [] else R (.v (qA (-1))) []):=by kernel_rfl
theorem ilS(b:Bool)(l:List Int)(c:Cir)(dg:List Int)(K:List It→St→Prop)(R:SV→List HO→Prop):W (xwp Try.prog X K48 [(102,[])] 60 (qO Try.f100 [] [⟨[0,1,0,1],[8,7,0,1],[]⟩]) [] [.at []] ⟨qQ 0 [.x 0 [],.fn (.func 102) [] [.x 1 []]],[.ext b (.s false 1 l.length (cI l)),.ext true (.s true 8 1 (fun _ j=>jX c dg j))]⟩ K R)=W (K [.at [0,1,0,1],.blk 0,.at [1,1]] (St.mk [(8,.v (qA 0)),(7,.v (qA (↑l.length:Int))),(0,.x 0 []),(1,SV.fn (Fn.func 102) [] [.x 1 []])] [.ext b (.s false 1 l.length (cI l)),.ext true (.s true 8 1 fun(x j:Nat)=>jX c dg j)])):=by kernel_rfl
theorem ilR(b:Bool)(l:List Int)(c:Cir)(dg:List Int)(k M:Nat)(K:List It→St→Prop)(R:SV→List HO→Prop):W (xwp Try.prog X K48 [(102,[])] 60 (qO Try.f100 [] [⟨[0,1,0,1],[8,7,0,1],[]⟩]) [] (.at [0,0,1,0,1]::.rnd [0,0,1,0,1] M::[.blk 0,.at [1,1]]) ⟨[(8,.v (.int .i64 (k:Int))),(7,.v (.int .i64 (l.length:Int))),(0,.x 0 []),(1,.fn (.func 102) [] [.x 1 []])],[.ext b (.s false 1 l.length (cI l)),.ext true (.s true 8 1 (fun _ j=>jX c dg j))]⟩ K R)=W (bif decide ((↑k:Int)<(↑l.length:Int)) then(∀ M:Mem,(0:Int)≤(↑k:Int)∧(↑k:Int)<(↑l.length:Int))∧(∀ M:Mem,k<List.length l)∧(∀ M:Mem,0<1)∧(∀ M:Mem,0<1)∧(∀ M:Mem,0<1)∧(∀ M:Mem,0<1)∧(∀ M:Mem,0<1)∧(∀ M:Mem,0<1)∧lH c.1 c.2 c.3 c.4.length c.5.length c.6.length c.7.length dg.length (cN c.4) (cI c.5) (cL c.6) (cK c.7) (cI dg) fun(c_1:Cir) (dg_1:List Int)=>bif !xJ c_1 (gI l k) then R (.v (qA (↑k:Int))) [] else K [.rnd [0,0,1,0,1] M,.blk 0,.at [1,1]] (St.mk [(8,.v (qA (IntKind.wrap .i64 ((↑k:Int)+(1:Int))))),(7,.v (qA (↑l.length:Int))),(0,.x 0 []),(1,SV.fn (Fn.func 102) [] [.x 1 []])] [.ext b (.s false 1 l.length (cI l)),.ext true (.s true 8 1 fun(x j:Nat)=>jX c dg j)]) else R (.v (qA (-1))) []):=by kernel_rfl
theorem qZy(b0 b1 b2 b3 b4:Bool)(c:Cir)(dg:List Int)(b5:Bool)(l:List Int)(hl:l.length≤17592186043904)(hg:∀ g∈l,0≤g∧g<(dg.length:Int))(Q:SV→List HO→Prop)(hq:Q (.v (.int .i64 (gtN dg l))) []):∀(d k:Nat) (m:Int),k+d=l.length→m=gtN dg (l.take k) →
  FOk Try.prog Try.f104 Q (.rnd [0,0,1,0,1,1] (d+1)::[.blk 0,.at [1,1,1]]) ⟨[(10,.v (.int .i64 (k:Int))),(9,.v (.int .i64 (l.length:Int))),(8,.x 0 []),(5,.v (.int .i64 m)),(2,.p 1 0)],[.ext b5 (.s false 1 l.length (cI l)),.cells [.v (.int .i64 c.fx),.v (.int .i64 c.ad),.v (.int .i64 c.ins),.x 2 [],.x 3 [],.x 4 [],.x 5 [],.x 6 []] 160,.ext b0 (.s false 7 c.nodes.length (cN c.nodes)),.ext b1 (.s false 1 c.gates.length (cI c.gates)),.ext b2 (.s false 2 c.looks.length (cL c.looks)),.ext b3 (.s false 2 c.eqs.length (cK c.eqs)),.ext b4 (.s false 1 dg.length (cI dg))]⟩
 | 0,k,m,hd,he=>by
  refine FOk.rnd (qE hm 60 ((gtR b0 b1 b2 b3 b4 c dg b5 l m k 0 _ _).mpr ⟨?_⟩))
  rw[qF,if_neg (by omega)]
  rw[show k=l.length by omega,List.take_length] at he
  rw[he]
  exact hq
 | d+1,k,m,hd,he=>by
  have hk:k<l.length:=by omega
  obtain⟨h1,h2⟩:=hg _ (qXo hk)
  refine FOk.rnd (qE hm 60 ((gtR b0 b1 b2 b3 b4 c dg b5 l m k (d+1) _ _).mpr ⟨?_⟩))
  rw[qF,if_pos (by omega),qN _ (by omega)]
  refine aI (aI (aI (aI (?_))))
  exact qZy b0 b1 b2 b3 b4 c dg b5 l hl hg Q hq d (k+1) _ (by omega) (by rw[zGk hk,he])
theorem bGt:Try.f104.body.isSome=true:=by kernel_rfl
theorem nGt(c:Cir):Nat.ble [(.agg [.v (.int .i64 c.fx),.v (.int .i64 c.ad),.v (.int .i64 c.ins),.x 0 [],.x 1 [],.x 2 [],.x 3 [],.x 4 []]:SV),.x 5 []].length Try.f104.ntmps=true:=by kernel_rfl
theorem zWj(b0 b1 b2 b3 b4:Bool)(c:Cir)(dg:List Int)(b5:Bool)(l:List Int)(hl:l.length≤17592186043904)(hg:∀ g∈l,0≤g∧g<(dg.length:Int))(Q:SV→List HO→Prop)(hq:Q (.v (.int .i64 (gtN dg l))) []):qI Try.prog 104 [.agg [.v (.int .i64 c.fx),.v (.int .i64 c.ad),.v (.int .i64 c.ins),.x 0 [],.x 1 [],.x 2 [],.x 3 [],.x 4 []],.x 5 []] [.ext b0 (.s false 7 c.nodes.length (cN c.nodes)),.ext b1 (.s false 1 c.gates.length (cI c.gates)),.ext b2 (.s false 2 c.looks.length (cL c.looks)),.ext b3 (.s false 2 c.eqs.length (cK c.eqs)),.ext b4 (.s false 1 dg.length (cI dg)),.ext b5 (.s false 1 l.length (cI l))] Q:=by
 refine qJ Try.func104 bGt ?_ ?_
 ·exact nGt c
 refine qE hm 60 ((gtS b0 b1 b2 b3 b4 c dg b5 l _ _).mpr ⟨?_⟩)
 exact FOk.loop (l.length+1) (by kernel_rfl) (qZy b0 b1 b2 b3 b4 c dg b5 l hl hg Q hq l.length 0 0 (by omega) rfl)
noncomputable def gGt:List SV→List HO→Option ((SV→List HO→Prop)→Prop)
 | [.agg [.v (.int .i64 fx),.v (.int .i64 ad),.v (.int .i64 ins),.x 0 [],.x 1 [],.x 2 [],.x 3 [],.x 4 []],.x 5 []],[.ext _ (.s false 7 n0 c0),.ext _ (.s false 1 n1 c1),.ext _ (.s false 2 n2 c2),.ext _ (.s false 2 n3 c3),.ext _ (.s false 1 n4 c4),.ext _ (.s false 1 n5 c5)]=>some fun Q=>lH fx ad ins n0 n1 n2 n3 n4 c0 c1 c2 c3 c4 fun c dg=>lG dg.length n5 c5 fun l=>Q (.v (.int .i64 (gtN dg l))) []
 | _,_=>none
theorem zOp(args:List SV)(h:List HO)(tr:(SV→List HO→Prop)→Prop)(Q:SV→List HO→Prop)(hc:gGt args h=some tr)(ht:tr Q):qI Try.prog 104 args h Q:=by
 unfold gGt at hc
 split at hc
 ·simp only[sI] at hc
  subst hc
  obtain⟨c,dg,rfl,rfl,rfl,⟨rfl,e0⟩,⟨rfl,e1⟩,⟨rfl,e2⟩,⟨rfl,e3⟩,⟨rfl,e4⟩,hk,hq⟩:=ht.h
  obtain⟨l,rfl,e5,hl,hg,hq⟩:=hq.h
  exact qI.ac (zWj _ _ _ _ _ c dg _ l hl hg Q hq) ⟨⟨rfl,rfl,rfl,rfl,e0⟩,⟨rfl,rfl,rfl,rfl,e1⟩,⟨rfl,rfl,rfl,rfl,e2⟩,⟨rfl,rfl,rfl,rfl,e3⟩,⟨rfl,rfl,rfl,rfl,e4⟩,⟨rfl,rfl,rfl,rfl,e5⟩,trivial⟩
 ·cases hc
theorem b80:Try.f100.body.isSome=true:=by kernel_rfl
theorem zAz(b:Bool)(l:List Int)(hb:l.length≤17592186043904)(c:Cir)(dg:List Int)(hc:c.ok)(Q:SV→List HO→Prop):∀(d k:Nat),k+d=l.length→Q (.v (.int .i64 (qX (fun n=>!wQ c n) k (l.drop k)))) [] →
  FOk Try.prog Try.f100 Q (.rnd [0,0,1,0,1] (d+1)::[.blk 0,.at [1,1]]) ⟨[(8,.v (.int .i64 (k:Int))),(7,.v (.int .i64 (l.length:Int))),(0,.x 0 []),(1,.fn (.func 80) [] [.x 1 []])],[.ext b (.s false 1 l.length (cI l)),.ext true (.s true 8 1 (fun _ j=>jX c dg j))]⟩
 | 0,k,hd,hq=>by
  refine FOk.rnd (qE hm 60 ((ijR b l c dg k 0 _ _).mpr ⟨?_⟩))
  rw[qF,if_neg (by omega)]
  rw[show k=l.length by omega,List.drop_length] at hq
  exact hq
 | d+1,k,hd,hq=>by
  have hk:k<l.length:=by omega
  refine FOk.rnd (qE hm 60 ((ijR b l c dg k (d+1) _ _).mpr ⟨?_⟩))
  rw[qF,if_pos (by omega),qN _ (by omega)]
  rw[qKx hk] at hq
  simp only[qF,zC]
  refine aI (aI (aI (aI (aI (aI (aI (aI (?_))))))))
  have go:wQ c (gI l k)=true→FOk Try.prog Try.f100 Q (.rnd [0,0,1,0,1] (d+1)::[.blk 0,.at [1,1]]) ⟨[(8,.v (.int .i64 ((k+1:Nat):Int))),(7,.v (.int .i64 (l.length:Int))),(0,.x 0 []),(1,.fn (.func 80) [] [.x 1 []])],[.ext b (.s false 1 l.length (cI l)),.ext true (.s true 8 1 (fun _ j=>jX c dg j))]⟩:=fun h=>by
   rw[h] at hq
   exact zAz b l hb c dg hc Q d (k+1) (by omega) hq
  have no:wQ c (gI l k)=false→Q (.v (.int .i64 (k:Int))) []:=fun h=>by
   rw[h] at hq
   exact hq
  refine qH (fun h=>qH (fun h2=>go (decide_eq_true ⟨h,h2⟩)) (fun h2=>no (decide_eq_false fun hh=>h2 hh.2))) (fun h=>no (decide_eq_false fun hh=>h hh.1))
theorem nij:Nat.ble [SV.x 0 [],.fn (.func 80) [] [.x 1 []]].length Try.f100.ntmps=true:=by kernel_rfl
theorem zUi(b:Bool)(l:List Int)(hb:l.length≤17592186043904)(c:Cir)(dg:List Int)(hc:c.ok)(Q:SV→List HO→Prop)(hq:Q (.v (.int .i64 (qX (fun n=>!wQ c n) 0 l))) []):qI Try.prog 100 [.x 0 [],.fn (.func 80) [] [.x 1 []]] [.ext b (.s false 1 l.length (cI l)),.ext true (.s true 8 1 (fun _ j=>jX c dg j))] Q:=by
 refine qJ Try.func100 b80 ?_ ?_
 ·exact nij
 refine qE hm 60 ((ijS b l c dg _ _).mpr ⟨?_⟩)
 exact FOk.loop (l.length+1) (by kernel_rfl) (zAz b l hb c dg hc Q l.length 0 (by omega) hq)
theorem zBh(b:Bool)(l:List Int)(hb:l.length≤17592186043904)(c:Cir)(dg:List Int)(hc:c.ok)(Q:SV→List HO→Prop):∀(d k:Nat),k+d=l.length→Q (.v (.int .i64 (qX (fun n=>!xJ c n) k (l.drop k)))) [] →
  FOk Try.prog Try.f100 Q (.rnd [0,0,1,0,1] (d+1)::[.blk 0,.at [1,1]]) ⟨[(8,.v (.int .i64 (k:Int))),(7,.v (.int .i64 (l.length:Int))),(0,.x 0 []),(1,.fn (.func 102) [] [.x 1 []])],[.ext b (.s false 1 l.length (cI l)),.ext true (.s true 8 1 (fun _ j=>jX c dg j))]⟩
 | 0,k,hd,hq=>by
  refine FOk.rnd (qE hm 60 ((ilR b l c dg k 0 _ _).mpr ⟨?_⟩))
  rw[qF,if_neg (by omega)]
  rw[show k=l.length by omega,List.drop_length] at hq
  exact hq
 | d+1,k,hd,hq=>by
  have hk:k<l.length:=by omega
  refine FOk.rnd (qE hm 60 ((ilR b l c dg k (d+1) _ _).mpr ⟨?_⟩))
  rw[qF,if_pos (by omega),qN _ (by omega)]
  rw[qKx hk] at hq
  refine aI (aI (aI (aI (aI (aI (aI (aI (?_))))))))
  refine qHw c dg hc (qK (fun h=>?_) (fun h=>?_))
  ·rw[Bool.not_eq_true'] at h
   rw[h] at hq
   exact hq
  ·rw[Bool.not_eq_false'] at h
   rw[h] at hq
   exact zBh b l hb c dg hc Q d (k+1) (by omega) hq
theorem nil:Nat.ble [SV.x 0 [],.fn (.func 102) [] [.x 1 []]].length Try.f100.ntmps=true:=by kernel_rfl
theorem zUa(b:Bool)(l:List Int)(hb:l.length≤17592186043904)(c:Cir)(dg:List Int)(hc:c.ok)(Q:SV→List HO→Prop)(hq:Q (.v (.int .i64 (qX (fun n=>!xJ c n) 0 l))) []):qI Try.prog 100 [.x 0 [],.fn (.func 102) [] [.x 1 []]] [.ext b (.s false 1 l.length (cI l)),.ext true (.s true 8 1 (fun _ j=>jX c dg j))] Q:=by
 refine qJ Try.func100 b80 ?_ ?_
 ·exact nil
 refine qE hm 60 ((ilS b l c dg _ _).mpr ⟨?_⟩)
 exact FOk.loop (l.length+1) (by kernel_rfl) (zBh b l hb c dg hc Q l.length 0 (by omega) hq)
noncomputable def g80:List SV→List HO→Option ((SV→List HO→Prop)→Prop)
 | [.x 0 [],.fn (.func 80) [] [.x 1 []]],[.ext _ (.s false 1 n c),.ext true (.s true 8 1 ck)]=>some fun Q=>lI n c fun l=>lKc ck fun c dg=>Q (.v (.int .i64 (qX (fun n=>!wQ c n) 0 l))) []
 | [.x 0 [],.fn (.func 102) [] [.x 1 []]],[.ext _ (.s false 1 n c),.ext true (.s true 8 1 ck)]=>some fun Q=>lI n c fun l=>lKc ck fun c dg=>Q (.v (.int .i64 (qX (fun n=>!xJ c n) 0 l))) []
 | _,_=>none
theorem zPp(args:List SV)(h:List HO)(tr:(SV→List HO→Prop)→Prop)(Q:SV→List HO→Prop)(hc:g80 args h=some tr)(ht:tr Q):qI Try.prog 100 args h Q:=by
 unfold g80 at hc
 split at hc
 ·simp only[sI] at hc
  subst hc
  obtain⟨l,rfl,he,hb,hk⟩:=ht.h
  obtain⟨c,dg,e1,hc,hq⟩:=hk.h
  exact qI.ac (zUi _ l hb c dg hc Q hq) ⟨⟨rfl,rfl,rfl,rfl,he⟩,⟨rfl,rfl,rfl,rfl,e1⟩,trivial⟩
 ·simp only[sI] at hc
  subst hc
  obtain⟨l,rfl,he,hb,hk⟩:=ht.h
  obtain⟨c,dg,e1,hc,hq⟩:=hk.h
  exact qI.ac (zUa _ l hb c dg hc Q hq) ⟨⟨rfl,rfl,rfl,rfl,he⟩,⟨rfl,rfl,rfl,rfl,e1⟩,trivial⟩
 ·cases hc
noncomputable def K49:Con Try.prog:=(K48.add 104 gGt zOp).add 100 g80 zPp
end Go.Proofs.Ytlmjdcbhpffanaa
/- The checker: columns that may be copied; lookups. -/
namespace Go.Pl
open Go.Sx
def zDe(c:Cir)(k:Int):Int:=if k=2 then c.fx else if k=3 then c.ad else if k=4 then c.ins else 0
def okK(c:Cir)(x:Int×Int):Bool:=decide ((2≤x.1∧x.1≤4)∧0≤x.2∧x.2<zDe c x.1)
def eqF(c:Cir):List (Int×Int)→List (Int×Int)→Bool
 | seen,x::r=>okK c x&&!decide (x∈seen)&&eqF c (seen++[x]) r
 | _,[]=>true
def prK(x:Int×Int):List Int:=[x.1,x.2]
theorem zJx{x y:Int×Int}:prK x=prK y↔x=y:=by
 constructor
 ·intro h
  simp only[prK,List.cons.injEq,and_true] at h
  exact Prod.ext h.1 h.2
 ·intro h; rw[h]
theorem qLr:∀(l:List (Int×Int)) (x:Int×Int),yN (l.map prK) [x.1,x.2]=decide (x∈l)
 | [],x=>by simp [yN]
 | y::r,x=>by
  have:decide ([x.1,x.2]=prK y)=decide (x=y):=decide_eq_decide.2 zJx
  rw[List.map_cons,yN,this,qLr r x]
  by_cases h:x=y
  ·simp [h]
  ·simp [h]
theorem qWg:∀(kl:List (List Int)) (x:List Int),yN kl x=false→zK kl x=kl++[x]
 | [],x,_=>rfl
 | k::r,x,h=>by
  rw[yN,Bool.or_eq_false_iff] at h
  rw[zK,h.1,cond_false,qWg r x h.2]
  rfl
theorem zMh(k:Int):yN [[2],[3],[4]] [k]=decide (2≤k∧k≤4):=by
 simp only[yN,List.cons.injEq,and_true,Bool.or_false]
 by_cases h2:k=2
 ·subst h2; rfl
 ·by_cases h3:k=3
  ·subst h3; rfl
  ·by_cases h4:k=4
   ·subst h4; rfl
   ·rw[decide_eq_false h2,decide_eq_false h3,decide_eq_false h4,decide_eq_false (by omega)]; rfl
theorem zRu(c:Cir)(k:Int):zM [[2],[3],[4]] [c.fx,c.ad,c.ins] [k]=zDe c k:=by
 simp only[zM,zDe,List.cons.injEq,and_true]
 by_cases h2:k=2
 ·simp [h2]
 ·by_cases h3:k=3
  ·simp [h3]
  ·by_cases h4:k=4
   ·simp [h4]
   ·simp [h2,h3,h4]
theorem zJc{l:List (Int×Int)}{k:Nat}(h:k<l.length):l.drop k=gK l k::l.drop (k+1):=by
 rw[List.drop_eq_getElem_cons h,gK,List.getD_eq_getElem?_getD,List.getElem?_eq_getElem h]; rfl
theorem zAu{l:List (Int×Int)}{k:Nat}(h:k<l.length):l.take (k+1)=l.take k++[gK l k]:=by
 rw[List.take_add_one,List.getElem?_eq_getElem h,gK,List.getD_eq_getElem?_getD,List.getElem?_eq_getElem h]; rfl
structure lLk (n : Nat) (c : Nat → Nat → qB) (k : List (List Int × List Int) → Prop) : Prop where
  h : ∃ l : List (List Int × List Int), n = l.length ∧ IsC n 2 c (cL l) ∧ l.length * 48 ≤ 140737488351232 ∧ (∀ x ∈ l, x.1.length * 8 ≤ 140737488351232 ∧ x.2.length * 8 ≤ 140737488351232) ∧ k l
theorem qRj(c:Cir)(dg:List Int)(hc:c.ok){k:Cir→List Int→Prop}(h:k c dg):lKc (lc 8 [qB.v (.int .i64 c.fx),qB.v (.int .i64 c.ad),qB.v (.int .i64 c.ins),qB.s false 7 c.nodes.length (cN c.nodes),qB.s false 1 c.gates.length (cI c.gates),qB.s false 2 c.looks.length (cL c.looks),qB.s false 2 c.eqs.length (cK c.eqs),qB.s false 1 dg.length (cI dg)]) k :=
 ⟨⟨c,dg,fun k hk j hj=>by
  have:k=0:=by omega
  subst this
  match j,hj with
  | 0,_=>rfl
  | 1,_=>rfl
  | 2,_=>rfl
  | 3,_=>rfl
  | 4,_=>rfl
  | 5,_=>rfl
  | 6,_=>rfl
  | 7,_=>rfl,hc,h⟩⟩
def xR(c:Cir)(x:List Int×List Int):Bool:=decide (1≤x.1.length∧x.1.length≤4∧x.2.length=x.1.length)&&!x.1.any (fun n=>!xJ c n)&&!x.2.any (fun n=>!xJ c n)
theorem qYx{p:List Int×List Int→Bool}{l:List (List Int×List Int)}{k:Nat}(h:k<l.length):qX p k (l.drop k)=if p (gL l k) then(k:Int) else qX p (k+1) (l.drop (k+1)):=by
 rw[List.drop_eq_getElem_cons h,qX,gL,List.getD_eq_getElem?_getD,List.getElem?_eq_getElem h]; rfl
end Go.Pl
namespace Go.Proofs.Ytlmjdcbhpffanaa
open Go.Sx Go.Pl
set_option linter.unusedVariables false
set_option maxRecDepth 100000
theorem zWn(b0 b1 b2 b3 b4:Bool)(c:Cir)(dg:List Int)(K:List It→St→Prop)(R:SV→List HO→Prop):W (xwp Try.prog X K49 [] 60 (qO Try.f85 [] [⟨[0,1,0,1,1,1],[27,26,25,4,3],[]⟩]) [] [.at []] ⟨qQ 0 [.agg [.v (.int .i64 c.fx),.v (.int .i64 c.ad),.v (.int .i64 c.ins),.x 0 [],.x 1 [],.x 2 [],.x 3 [],.x 4 []]],[.ext b0 (.s false 7 c.nodes.length (cN c.nodes)),.ext b1 (.s false 1 c.gates.length (cI c.gates)),.ext b2 (.s false 2 c.looks.length (cL c.looks)),.ext b3 (.s false 2 c.eqs.length (cK c.eqs)),.ext b4 (.s false 1 dg.length (cI dg))]⟩ K R)=W (K [.at [0,1,0,1,1,1],.blk 0,.at [1,1,1,1]] (St.mk [(27,.v (qA 0)),(26,.v (qA (↑c.7.length:Int))),(25,.x 0 []),(4,.m 1),(3,.m 2)] [.ext b3 (.s false 2 c.7.length (cK c.7)),.mp false [IntKind.i64] [[(2:Int)],[(3:Int)],[(4:Int)]] (Mc.ints IntKind.i64 (zA [[(2:Int)],[(3:Int)]] (zA [[(2:Int)]] (zA [] [] [(2:Int)] c.1) [(3:Int)] c.2) [(4:Int)] c.3)),.mp true [IntKind.i64,IntKind.i64] [] Mc.unit])):=by kernel_rfl
theorem zTw(b:Bool)(l:List (Int×Int))(ms:List Int)(kl:List (List Int))(k M:Nat)(K:List It→St→Prop)(R:SV→List HO→Prop):W (xwp Try.prog X K49 [] 60 (qO Try.f85 [] [⟨[0,1,0,1,1,1],[27,26,25,4,3],[]⟩]) [] (.at [0,0,1,0,1,1,1]::.rnd [0,0,1,0,1,1,1] M::[.blk 0,.at [1,1,1,1]]) ⟨[(27,.v (.int .i64 (k:Int))),(26,.v (.int .i64 (l.length:Int))),(25,.x 0 []),(4,.m 1),(3,.m 2)],[.ext b (.s false 2 l.length (cK l)),.mp false [.i64] [[2],[3],[4]] (.ints .i64 ms),.mp true [.i64,.i64] kl .unit]⟩ K R)=W (bif decide ((↑k:Int)<(↑l.length:Int)) then(∀ M:Mem,(0:Int)≤(↑k:Int)∧(↑k:Int)<(↑l.length:Int))∧(∀ M:Mem,k<List.length l)∧(∀ M:Mem,0+2≤2)∧(∀ M:Mem,0≤0)∧bif !yN [[(2:Int)],[(3:Int)],[(4:Int)]] [(gK l k).1] then R (.v (.bool false)) [] else bif yN kl [(gK l k).1,(gK l k).2] then R (.v (.bool false)) [] else bif decide ((gK l k).2<(0:Int)) then R (.v (.bool false)) [] else bif decide (zM [[(2:Int)],[(3:Int)],[(4:Int)]] ms [(gK l k).1]≤(gK l k).2) then R (.v (.bool false)) [] else K [.rnd [0,0,1,0,1,1,1] M,.blk 0,.at [1,1,1,1]] (St.mk [(27,.v (qA (IntKind.wrap .i64 ((↑k:Int)+(1:Int))))),(26,.v (qA (↑l.length:Int))),(25,.x 0 []),(4,.m 1),(3,.m 2)] [.ext b (.s false 2 l.length (cK l)),.mp false [IntKind.i64] [[(2:Int)],[(3:Int)],[(4:Int)]] (Mc.ints IntKind.i64 ms),.mp true [IntKind.i64,IntKind.i64] (zK kl [(gK l k).1,(gK l k).2]) Mc.unit]) else R (.v (.bool true)) []):=by kernel_rfl
theorem ikS(b:Bool)(c:Cir)(dg:List Int)(l:List (List Int×List Int))(K:List It→St→Prop)(R:SV→List HO→Prop):W (xwp Try.prog X K49 [(83,[]),(84,[]),(79,[])] 60 (qO Try.f101 [] [⟨[0,1,0,1],[8,7,0,1],[]⟩]) [] [.at []] ⟨qQ 0 [.x 0 [],.fn (.func 83) [] [.x 1 []]],[.ext b (.s false 2 l.length (cL l)),.ext true (.s true 8 1 (fun _ j=>jX c dg j))]⟩ K R)=W (K [.at [0,1,0,1],.blk 0,.at [1,1]] (St.mk [(8,.v (qA 0)),(7,.v (qA (↑l.length:Int))),(0,.x 0 []),(1,SV.fn (Fn.func 83) [] [.x 1 []])] [.ext b (.s false 2 l.length (cL l)),.ext true (.s true 8 1 fun(x j:Nat)=>jX c dg j)])):=by kernel_rfl
theorem ikR(b:Bool)(c:Cir)(dg:List Int)(l:List (List Int×List Int))(k M:Nat)(K:List It→St→Prop)(R:SV→List HO→Prop):W (xwp Try.prog X K49 [(83,[]),(84,[]),(79,[])] 60 (qO Try.f101 [] [⟨[0,1,0,1],[8,7,0,1],[]⟩]) [] (.at [0,0,1,0,1]::.rnd [0,0,1,0,1] M::[.blk 0,.at [1,1]]) ⟨[(8,.v (.int .i64 (k:Int))),(7,.v (.int .i64 (l.length:Int))),(0,.x 0 []),(1,.fn (.func 83) [] [.x 1 []])],[.ext b (.s false 2 l.length (cL l)),.ext true (.s true 8 1 (fun _ j=>jX c dg j))]⟩ K R)=W (bif decide ((↑k:Int)<(↑l.length:Int)) then(∀ M:Mem,(0:Int)≤(↑k:Int)∧(↑k:Int)<(↑l.length:Int))∧(∀ M:Mem,k<List.length l)∧(∀ M:Mem,k<List.length l)∧(∀ M:Mem,k<List.length l)∧(∀ M:Mem,0<1)∧(∀ M:Mem,0<1)∧(∀ M:Mem,0<1)∧(∀ M:Mem,0<1)∧(∀ M:Mem,0<1)∧(∀ M:Mem,0<1)∧bif decide ((↑(List.length (gL l k).1):Int)<(1:Int)) then R (.v (qA (↑k:Int))) [] else bif decide ((4:Int)<(↑(List.length (gL l k).1):Int)) then R (.v (qA (↑k:Int))) [] else bif !(↑(List.length (gL l k).2):Int)==(↑(List.length (gL l k).1):Int) then R (.v (qA (↑k:Int))) [] else lI (List.length (gL l k).1) (cI (gL l k).1) fun(l_1:List Int)=>lKc (lc 8 [.v (qA c.1),.v (qA c.2),.v (qA c.3),.s false 7 c.4.length (cN c.4),.s false 1 c.5.length (cI c.5),.s false 2 c.6.length (cL c.6),.s false 2 c.7.length (cK c.7),.s false 1 dg.length (cI dg)]) fun(c_1:Cir) (dg_1:List Int)=>bif !decide ((0:Int)≤qX (fun(n:Int)=>!xJ c_1 n) 0 l_1) then lI (List.length (gL l k).2) (cI (gL l k).2) fun(l_2:List Int)=>lKc (lc 8 [.v (qA c.1),.v (qA c.2),.v (qA c.3),.s false 7 c.4.length (cN c.4),.s false 1 c.5.length (cI c.5),.s false 2 c.6.length (cL c.6),.s false 2 c.7.length (cK c.7),.s false 1 dg.length (cI dg)]) fun(c_2:Cir) (dg_2:List Int)=>bif !!decide ((0:Int)≤qX (fun(n:Int)=>!xJ c_2 n) 0 l_2) then R (.v (qA (↑k:Int))) [] else K [.rnd [0,0,1,0,1] M,.blk 0,.at [1,1]] (St.mk [(8,.v (qA (IntKind.wrap .i64 ((↑k:Int)+(1:Int))))),(7,.v (qA (↑l.length:Int))),(0,.x 0 []),(1,SV.fn (Fn.func 83) [] [.x 1 []])] [.ext b (.s false 2 l.length (cL l)),.ext true (.s true 8 1 fun(x j:Nat)=>jX c dg j)]) else R (.v (qA (↑k:Int))) [] else R (.v (qA (-1))) []):=by kernel_rfl
theorem qUv(b:Bool)(c:Cir)(l:List (Int×Int))(hl:l.length≤8796093022208)(ms:List Int)(hms:ms=[c.fx,c.ad,c.ins])(Q:SV→List HO→Prop):∀(d k:Nat) (kl:List (List Int)),k+d=l.length→kl=(l.take k).map prK→Q (.v (.bool (eqF c (l.take k) (l.drop k)))) [] →
  FOk Try.prog Try.f85 Q (.rnd [0,0,1,0,1,1,1] (d+1)::[.blk 0,.at [1,1,1,1]]) ⟨[(27,.v (.int .i64 (k:Int))),(26,.v (.int .i64 (l.length:Int))),(25,.x 0 []),(4,.m 1),(3,.m 2)],[.ext b (.s false 2 l.length (cK l)),.mp false [.i64] [[2],[3],[4]] (.ints .i64 ms),.mp true [.i64,.i64] kl .unit]⟩
 | 0,k,kl,hd,he,hq=>by
  refine FOk.rnd (qE hm 60 ((zTw b l ms kl k 0 _ _).mpr ⟨?_⟩))
  rw[qF,if_neg (by omega)]
  rw[show k=l.length by omega,List.drop_length,eqF] at hq
  exact hq
 | d+1,k,kl,hd,he,hq=>by
  have hk:k<l.length:=by omega
  refine FOk.rnd (qE hm 60 ((zTw b l ms kl k (d+1) _ _).mpr ⟨?_⟩))
  rw[qF,if_pos (by omega),qN _ (by omega),zMh,hms,zRu,he,qLr]
  rw[zJc hk,eqF] at hq
  simp only[qF,zC]
  refine aI (aI (aI (aI (?_))))
  have no:(okK c (gK l k)&&!decide (gK l k∈l.take k))=false→Q (.v (.bool false)) []:=fun h=>by
   rw[h,Bool.false_and] at hq
   exact hq
  refine qH (fun h1=>qH (fun h2=>?_) (fun h2=>qH (fun h3=>?_) (fun h3=>qH (fun h4=>?_) (fun h4=>?_)))) (fun h1=>?_)
  ·exact no (by rw[decide_eq_true h2]; simp)
  ·exact no (by rw[okK,decide_eq_false (by omega)]; rfl)
  ·exact no (by rw[okK,decide_eq_false (by omega)]; rfl)
  ·rw[okK,decide_eq_true (by omega),decide_eq_false h2,Bool.not_false,Bool.true_and,Bool.true_and,← zAu hk] at hq
   have h5:zK ((l.take k).map prK) [(gK l k).1,(gK l k).2]=(l.take (k+1)).map prK:=by
    rw[qWg _ _ (by rw[qLr,decide_eq_false h2]),zAu hk,List.map_append]; rfl
   rw[h5]
   have:=qUv b c l hl ms hms Q d (k+1) _ (by omega) rfl hq
   rw[hms] at this
   exact this
  ·exact no (by rw[okK,decide_eq_false (by omega)]; rfl)
theorem jBe:Try.f85.body.isSome=true:=by kernel_rfl
theorem jAr(c:Cir):Nat.ble [(.agg [.v (.int .i64 c.fx),.v (.int .i64 c.ad),.v (.int .i64 c.ins),.x 0 [],.x 1 [],.x 2 [],.x 3 [],.x 4 []]:SV)].length Try.f85.ntmps=true:=by kernel_rfl
theorem zQj(b0 b1 b2 b3 b4:Bool)(c:Cir)(dg:List Int)(hc:c.ok)(Q:SV→List HO→Prop)(hq:Q (.v (.bool (eqF c [] c.eqs))) []):qI Try.prog 85 [.agg [.v (.int .i64 c.fx),.v (.int .i64 c.ad),.v (.int .i64 c.ins),.x 0 [],.x 1 [],.x 2 [],.x 3 [],.x 4 []]] [.ext b0 (.s false 7 c.nodes.length (cN c.nodes)),.ext b1 (.s false 1 c.gates.length (cI c.gates)),.ext b2 (.s false 2 c.looks.length (cL c.looks)),.ext b3 (.s false 2 c.eqs.length (cK c.eqs)),.ext b4 (.s false 1 dg.length (cI dg))] Q:=by
 refine qJ Try.func85 jBe ?_ ?_
 ·exact jAr c
 have h1:=hc.e.2
 refine qE hm 60 ((zWn b0 b1 b2 b3 b4 c dg _ _).mpr ⟨?_⟩)
 exact FOk.loop (c.eqs.length+1) (by kernel_rfl) (qUv b3 c c.eqs (by omega) _ rfl Q c.eqs.length 0 [] (by omega) rfl hq)
noncomputable def zQx:List SV→List HO→Option ((SV→List HO→Prop)→Prop)
 | [.agg [.v (.int .i64 fx),.v (.int .i64 ad),.v (.int .i64 ins),.x 0 [],.x 1 [],.x 2 [],.x 3 [],.x 4 []]],[.ext _ (.s false 7 n0 c0),.ext _ (.s false 1 n1 c1),.ext _ (.s false 2 n2 c2),.ext _ (.s false 2 n3 c3),.ext _ (.s false 1 n4 c4)]=>some fun Q=>lH fx ad ins n0 n1 n2 n3 n4 c0 c1 c2 c3 c4 fun c dg=>Q (.v (.bool (eqF c [] c.eqs))) []
 | _,_=>none
theorem zJs(args:List SV)(h:List HO)(tr:(SV→List HO→Prop)→Prop)(Q:SV→List HO→Prop)(hc:zQx args h=some tr)(ht:tr Q):qI Try.prog 85 args h Q:=by
 unfold zQx at hc
 split at hc
 ·simp only[sI] at hc
  subst hc
  obtain⟨c,dg,rfl,rfl,rfl,⟨rfl,e0⟩,⟨rfl,e1⟩,⟨rfl,e2⟩,⟨rfl,e3⟩,⟨rfl,e4⟩,hk,hq⟩:=ht.h
  exact qI.ac (zQj _ _ _ _ _ c dg hk Q hq) ⟨⟨rfl,rfl,rfl,rfl,e0⟩,⟨rfl,rfl,rfl,rfl,e1⟩,⟨rfl,rfl,rfl,rfl,e2⟩,⟨rfl,rfl,rfl,rfl,e3⟩,⟨rfl,rfl,rfl,rfl,e4⟩,trivial⟩
 ·cases hc
theorem zBb(b:Bool)(c:Cir)(dg:List Int)(l:List (List Int×List Int))(hb:l.length*48≤140737488351232)(hl:∀ x∈l,x.1.length*8≤140737488351232∧x.2.length*8≤140737488351232)(hc:c.ok)(Q:SV→List HO→Prop):∀(d k:Nat),k+d=l.length→Q (.v (.int .i64 (qX (fun x=>!xR c x) k (l.drop k)))) [] →
  FOk Try.prog Try.f101 Q (.rnd [0,0,1,0,1] (d+1)::[.blk 0,.at [1,1]]) ⟨[(8,.v (.int .i64 (k:Int))),(7,.v (.int .i64 (l.length:Int))),(0,.x 0 []),(1,.fn (.func 83) [] [.x 1 []])],[.ext b (.s false 2 l.length (cL l)),.ext true (.s true 8 1 (fun _ j=>jX c dg j))]⟩
 | 0,k,hd,hq=>by
  refine FOk.rnd (qE hm 60 ((ikR b c dg l k 0 _ _).mpr ⟨?_⟩))
  rw[qF,if_neg (by omega)]
  rw[show k=l.length by omega,List.drop_length] at hq
  exact hq
 | d+1,k,hd,hq=>by
  have hk:k<l.length:=by omega
  obtain⟨l1,l2⟩:=hl _ (qSe hk)
  refine FOk.rnd (qE hm 60 ((ikR b c dg l k (d+1) _ _).mpr ⟨?_⟩))
  rw[qF,if_pos (by omega),qN _ (by omega)]
  rw[qYx hk] at hq
  have go:xR c (gL l k)=true→FOk Try.prog Try.f101 Q (.rnd [0,0,1,0,1] (d+1)::[.blk 0,.at [1,1]]) ⟨[(8,.v (.int .i64 ((k+1:Nat):Int))),(7,.v (.int .i64 (l.length:Int))),(0,.x 0 []),(1,.fn (.func 83) [] [.x 1 []])],[.ext b (.s false 2 l.length (cL l)),.ext true (.s true 8 1 (fun _ j=>jX c dg j))]⟩:=fun h=>by
   rw[h] at hq
   exact zBb b c dg l hb hl hc Q d (k+1) (by omega) hq
  have no:xR c (gL l k)=false→Q (.v (.int .i64 (k:Int))) []:=fun h=>by
   rw[h] at hq
   exact hq
  simp only[qF,zC,zF]
  refine aI (aI (aI (aI (aI (aI (aI (aI (aI (aI (?_))))))))))
  refine qH (fun h=>no ?_) (fun h1=>qH (fun h=>no ?_) (fun h2=>qH (fun h3=>?_) (fun h3=>no ?_)))
  ·rw[xR,decide_eq_false (by omega)]; rfl
  ·rw[xR,decide_eq_false (by omega)]; rfl
  ·refine⟨⟨_,rfl,IsC.refl _ _ _,by omega,qRj c dg hc (qH (fun h4=>no ?_) (fun h4=>⟨⟨_,rfl,IsC.refl _ _ _,by omega,qRj c dg hc (qH (fun h5=>no ?_) (fun h5=>go ?_))⟩⟩))⟩⟩
   ·rw[xR,← zU (fun n=>!xJ c n) (gL l k).1 0,decide_eq_true h4]; simp
   ·rw[xR,← zU (fun n=>!xJ c n) (gL l k).2 0,decide_eq_true h5]; simp
   ·rw[xR,← zU (fun n=>!xJ c n) (gL l k).1 0,← zU (fun n=>!xJ c n) (gL l k).2 0,decide_eq_false h4,decide_eq_false h5,decide_eq_true (by omega)]; rfl
  ·rw[xR,decide_eq_false (by omega)]; rfl
theorem b81:Try.f101.body.isSome=true:=by kernel_rfl
theorem n81:Nat.ble [SV.x 0 [],.fn (.func 83) [] [.x 1 []]].length Try.f101.ntmps=true:=by kernel_rfl
theorem zVl(b:Bool)(c:Cir)(dg:List Int)(l:List (List Int×List Int))(hb:l.length*48≤140737488351232)(hl:∀ x∈l,x.1.length*8≤140737488351232∧x.2.length*8≤140737488351232)(hc:c.ok)(Q:SV→List HO→Prop)(hq:Q (.v (.int .i64 (qX (fun x=>!xR c x) 0 l))) []):qI Try.prog 101 [.x 0 [],.fn (.func 83) [] [.x 1 []]] [.ext b (.s false 2 l.length (cL l)),.ext true (.s true 8 1 (fun _ j=>jX c dg j))] Q:=by
 refine qJ Try.func101 b81 ?_ ?_
 ·exact n81
 refine qE hm 60 ((ikS b c dg l _ _).mpr ⟨?_⟩)
 exact FOk.loop (l.length+1) (by kernel_rfl) (zBb b c dg l hb hl hc Q l.length 0 (by omega) hq)
noncomputable def g81:List SV→List HO→Option ((SV→List HO→Prop)→Prop)
 | [.x 0 [],.fn (.func 83) [] [.x 1 []]],[.ext _ (.s false 2 n c),.ext true (.s true 8 1 ck)]=>some fun Q=>lLk n c fun l=>lKc ck fun c dg=>Q (.v (.int .i64 (qX (fun x=>!xR c x) 0 l))) []
 | _,_=>none
theorem zNf(args:List SV)(h:List HO)(tr:(SV→List HO→Prop)→Prop)(Q:SV→List HO→Prop)(hc:g81 args h=some tr)(ht:tr Q):qI Try.prog 101 args h Q:=by
 unfold g81 at hc
 split at hc
 ·simp only[sI] at hc
  subst hc
  obtain⟨l,rfl,he,hb,hl,hk⟩:=ht.h
  obtain⟨c,dg,e1,hc,hq⟩:=hk.h
  exact qI.ac (zVl _ c dg l hb hl hc Q hq) ⟨⟨rfl,rfl,rfl,rfl,he⟩,⟨rfl,rfl,rfl,rfl,e1⟩,trivial⟩
 ·cases hc
noncomputable def K50:Con Try.prog:=(K49.add 85 zQx zJs).add 101 g81 zNf
end Go.Proofs.Ytlmjdcbhpffanaa
