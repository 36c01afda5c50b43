/- The texts Z94p .. Z81 of this proof, one behind the other. -/
import Derived.Test.YtlmjdcbhpffanaaGreatM4
import Derived.Test.YtlmjdcbhpffanaaGreatM1
/- Lookups by each pair of rows: plain. -/
namespace Go.Pl
open Go.Sx
theorem qSb:∀(kl:List (List Int)) (x:List Int),xJ kl x=true↔x∈kl
 | [],x=>by simp [xJ]
 | k::r,x=>by rw[xJ,Bool.or_eq_true,decide_eq_true_eq,qSb r x,List.mem_cons]
theorem qEb:∀(kl:List (List Int)) (x y:List Int),y∈yF kl x↔y∈kl∨y=x
 | [],x,y=>by simp [yF]
 | k::r,x,y=>by
  rw[yF]
  by_cases h:x=k
  ·subst h
   rw[decide_eq_true rfl,cond_true,List.mem_cons]
   constructor
   ·exact .inl
   ·rintro(h | rfl)
    ·exact h
    ·exact .inl rfl
  ·rw[decide_eq_false h,cond_false,List.mem_cons,qEb r x y,List.mem_cons,or_assoc]
theorem qOr(tabs:List Int)(y:List Int):∀(rows:List (List Nat)) (ks:List (List Int)),y∈rows.foldl (fun ks r=>yF ks (tK r tabs)) ks↔y∈ks∨∃ r∈rows,y=tK r tabs
 | [],ks=>by simp
 | r::t,ks=>by
  rw[List.foldl_cons,qOr tabs y t,qEb]
  constructor
  ·rintro((h | h) | ⟨z,hz,h⟩)
   ·exact .inl h
   ·exact .inr ⟨r,List.mem_cons_self,h⟩
   ·exact .inr ⟨z,List.mem_cons_of_mem _ hz,h⟩
  ·rintro(h | ⟨z,hz,h⟩)
   ·exact .inl (.inl h)
   ·rcases List.mem_cons.1 hz with rfl | hz
    ·exact .inl (.inr h)
    ·exact .inr ⟨z,hz,h⟩
noncomputable def qQq(x y:List Nat)(ins tabs:List Int)(n:Nat):Bool:=(List.range n).all fun j=>decide (eI (gE x (gI ins j).toNat)=eI (gE y (gI tabs j).toNat))
noncomputable def qRj(x:List Nat)(rows:List (List Nat))(ins tabs:List Int)(n:Nat):Bool:=(List.range n).any fun t=>qQq x (gT rows t) ins tabs ins.length
theorem zBe(x y:List Nat)(ins tabs:List Int)(n:Nat):qQq x y ins tabs (n+1)=(qQq x y ins tabs n&&decide (eI (gE x (gI ins n).toNat)=eI (gE y (gI tabs n).toNat))):=by
 rw[qQq,List.range_succ,List.all_append,List.all_cons,List.all_nil,Bool.and_true]; rfl
theorem zAs(x:List Nat)(rows:List (List Nat))(ins tabs:List Int)(n:Nat):qRj x rows ins tabs (n+1)=(qRj x rows ins tabs n||qQq x (gT rows n) ins tabs ins.length):=by
 rw[qRj,List.range_succ,List.any_append,List.any_cons,List.any_nil,Bool.or_false]; rfl
theorem zLo{a b c d a2 b2 c2 d2:Nat}:eI a++(eI b++(eI c++eI d))=eI a2++(eI b2++(eI c2++eI d2))↔eI a=eI a2∧eI b=eI b2∧eI c=eI c2∧eI d=eI d2:=by
 constructor
 ·intro h
  obtain⟨h1,h⟩:=List.append_inj h rfl
  obtain⟨h2,h⟩:=List.append_inj h rfl
  obtain⟨h3,h4⟩:=List.append_inj h rfl
  exact⟨h1,h2,h3,h4⟩
 ·rintro⟨h1,h2,h3,h4⟩
  rw[h1,h2,h3,h4]
theorem zKr(x y:List Nat)(ins tabs:List Int):tK x ins=tK y tabs↔∀ j,j<4→eI (tkN x ins j)=eI (tkN y tabs j):=by
 refine(zLo (a:=tkN x ins 0) (b:=tkN x ins 1) (c:=tkN x ins 2) (d:=tkN x ins 3) (a2:=tkN y tabs 0) (b2:=tkN y tabs 1) (c2:=tkN y tabs 2) (d2:=tkN y tabs 3)).trans ?_
 constructor
 ·rintro⟨h0,h1,h2,h3⟩ j hj
  have:j=0∨j=1∨j=2∨j=3:=by omega
  rcases this with rfl | rfl | rfl | rfl
  ·exact h0
  ·exact h1
  ·exact h2
  ·exact h3
 ·intro h
  exact⟨h 0 (by omega),h 1 (by omega),h 2 (by omega),h 3 (by omega)⟩
theorem zBy{x y:List Nat}{ins tabs:List Int}(h4:ins.length≤4)(hl:tabs.length=ins.length):tK x ins=tK y tabs↔qQq x y ins tabs ins.length=true:=by
 rw[zKr,qQq,List.all_eq_true]
 constructor
 ·intro h j hj
  have hj2:=List.mem_range.1 hj
  have h2:=h j (by omega)
  rw[tkN,if_pos hj2,tkN,if_pos (by omega)] at h2
  exact decide_eq_true h2
 ·intro h j hj
  by_cases h2:j<ins.length
  ·rw[tkN,if_pos h2,tkN,if_pos (by omega)]
   exact of_decide_eq_true (h j (List.mem_range.2 h2))
  ·rw[tkN,if_neg h2,tkN,if_neg (by omega)]
theorem zAm{rows:List (List Nat)}{r:List Nat}(h:r∈rows):∃ t,t<rows.length∧gT rows t=r:=by
 obtain⟨t,ht,e⟩:=List.mem_iff_getElem.1 h
 exact⟨t,ht,by rw[gT,List.getD_eq_getElem?_getD,List.getElem?_eq_getElem ht]; exact e⟩
theorem zDh{x:List Nat}{rows:List (List Nat)}{ins tabs:List Int}(h4:ins.length≤4)(hl:tabs.length=ins.length):xJ (qEh rows tabs) (tK x ins)=qRj x rows ins tabs rows.length:=by
 rw[Bool.eq_iff_iff,qSb,qEh,qOr,qRj,List.any_eq_true]
 constructor
 ·rintro(h | ⟨r,hr,h⟩)
  ·cases h
  ·obtain⟨t,ht,rfl⟩:=zAm hr
   exact⟨t,List.mem_range.2 ht,(zBy h4 hl).1 h⟩
 ·rintro⟨t,ht,h⟩
  exact .inr ⟨gT rows t,qBd (List.mem_range.1 ht),(zBy h4 hl).2 h⟩
noncomputable def lkR(rows:List (List Nat))(ins tabs:List Int)(i:Int):Nat→Nat→List (Int×Int×Int)
 | 0,_=>[]
 | d+1,r=>(bif qRj (gT rows r) rows ins tabs rows.length then[] else[((2:Int),i,(r:Int))])++lkR rows ins tabs i d (r+1)
theorem zCe(rows:List (List Nat))(ins tabs:List Int)(i:Int)(h4:ins.length≤4)(hl:tabs.length=ins.length):∀(d r:Nat),r+d=rows.length→lkR rows ins tabs i d r=(qFm (qEh rows tabs) ins (r:Int) (rows.drop r)).map fun r=>((2:Int),i,r)
 | 0,r,h=>by
  rw[lkR,List.drop_eq_nil_of_le (by omega),qFm]; rfl
 | d+1,r,h=>by
  rw[lkR,qYz (by omega),qFm,zDh h4 hl,List.map_append,zCe rows ins tabs i h4 hl d (r+1) (by omega),show((r+1:Nat):Int)=(r:Int)+1 by omega]
  cases qRj (gT rows r) rows ins tabs rows.length <;> rfl
theorem zAr(rows:List (List Nat))(ins tabs:List Int)(i:Int)(h4:ins.length≤4)(hl:tabs.length=ins.length):(xX rows ins tabs).map (fun r=>((2:Int),i,r))=lkR rows ins tabs i rows.length 0:=(zCe rows ins tabs i h4 hl rows.length 0 (by omega)).symm
theorem zBc{c:Cir}(h:zY c=0):∀ l∈c.looks,l.2.length=l.1.length:=by
 obtain⟨_,hg⟩:=xV h
 intro l hl
 exact(qBn (qBq (qEx hg).2.2.1 l hl)).2.2.2.2
end Go.Pl
namespace Go.Proofs.YtlmjdcbhpffanaaGreat
open Go.Sx Go.Pl
set_option linter.unusedVariables false
set_option maxRecDepth 100000
end Go.Proofs.YtlmjdcbhpffanaaGreat
/- The document's faults. -/
namespace Go.Proofs.YtlmjdcbhpffanaaGreat
open Go.Sx Go.Pl
set_option linter.unusedVariables false
set_option maxRecDepth 100000
theorem zWy(c:Cir)(s:Sht)(so k:Int)(K:List It→St→Prop)(R:SV→List HO→Prop):W (xwp Tryz.prog X K93 [] 60 (qK Tryz.f26 [] [⟨[0,1,0,1,1,1,1,1,1,1,1],[15,14,13,12,11,7,5,2,0],[]⟩,⟨[0,1,0,1,1,1,1,1,1,1,1,1],[16,14,13,12,11,7,5,2,0],[]⟩,⟨[0,1,1,0,0,1,0,0,1,0,1,1,1,1,1,1,1,1,1],[19,18,16,14,13,12,11,7,5,2,0],[]⟩,⟨[0,1,0,1,1,1,1,1,1,1,1,1,1],[20,14,13,11,7,5,0],[]⟩,⟨[0,1,1,0,0,1,0,0,1,0,1,1,1,1,1,1,1,1,1,1],[22,21,20,14,13,11,7,5,0],[]⟩,⟨[0,1,0,1,0,0,1,0,0,1,1,0,0,1,0,0,1,0,1,1,1,1,1,1,1,1,1,1],[24,23,22,21,20,14,13,11,7,5,0],[]⟩,⟨[0,1,0,1,0,0,1,0,0,1,0,1,0,0,1,0,0,1,1,0,0,1,0,0,1,0,1,1,1,1,1,1,1,1,1,1],[26,25,24,23,22,21,20,14,13,11,7,5,0],[]⟩,⟨[0,1,0,1,1,1,1,1,1,1,1,1,1,1],[27,11,7,5,0],[]⟩]) [] [.at []] ⟨qR 0 [.v (.int .i64 so),.agg [.v (.int .i64 c.fx),.v (.int .i64 c.ad),.v (.int .i64 c.ins),.x 0 [],.x 1 [],.x 2 [],.x 3 []],.v (.int .i64 k),.agg [.x 4 [],.x 5 [],.x 6 [],.x 7 []]],[.ext false (.s false 7 c.nodes.length (cN c.nodes)),.ext false (.s false 1 c.gates.length (cI c.gates)),.ext false (.s false 2 c.looks.length (cL c.looks)),.ext false (.s false 2 c.eqs.length (cK c.eqs)),.ext false (.s false 1 s.fx.length (cT s.fx)),.ext false (.s false 1 s.ad.length (cT s.ad)),.ext false (.s false 1 s.is.length (cT s.is)),.ext false (.s false 4 s.cp.length (cP s.cp))]⟩ K R)=W (bif decide (so<(0:Int)) then R (.tup [.v (Value.slice none 0 0),.v (qA 20)]) [] else bif decide ((3:Int)<so) then R (.tup [.v (Value.slice none 0 0),.v (qA 20)]) [] else lF c.1 c.2 c.3 c.4.length c.5.length c.6.length c.7.length s.1.length s.2.length s.3.length s.4.length (cN c.4) (cI c.5) (cL c.6) (cK c.7) (cT s.1) (cT s.2) (cT s.3) (cP s.4) fun(c_1:Cir) (s_1:Sht)=>bif !xK c_1 k s_1==(0:Int) then R (.tup [.v (Value.slice none 0 0),.v (qA (xK c_1 k s_1))]) [] else(∀ M:Mem,4≤4)∧K [.at [0,1,0,1,1,1,1,1,1,1,1],.blk 0,.at [1,1,1,1,1,1,1,1,1]] (St.mk [(15,.v (qA 0)),(14,.o 0),(13,.v (qA (usN k))),(12,.p 1 0),(11,.o 2),(7,.p 3 0),(5,.p 4 0),(2,.v (qA k)),(0,.v (qA so))] [.rowc 67 1 0 (.lit 1 []),.cells [.v (qC 0),.v (qC 0),.v (qC 0),.v (qC 0)] 53,.rowc 111 3 0 (.lit 3 []),.cells [.x 5 [],.x 6 [],.x 7 [],.x 8 []] 42,.cells [.v (qA c.1),.v (qA c.2),.v (qA c.3),.x 9 [],.x 10 [],.x 11 [],.x 12 []] 27,.ext false (.s false 1 s.1.length (cT s.1)),.ext false (.s false 1 s.2.length (cT s.2)),.ext false (.s false 1 s.3.length (cT s.3)),.ext false (.s false 4 s.4.length (cP s.4)),.ext false (.s false 7 c.4.length (cN c.4)),.ext false (.s false 1 c.5.length (cI c.5)),.ext false (.s false 2 c.6.length (cL c.6)),.ext false (.s false 2 c.7.length (cK c.7))])):=by kernel_rfl
theorem ra0(c:Cir)(s:Sht)(so k:Int)(rows:List (List Nat))(n:Nat)(u:Int)(i M:Nat)(K:List It→St→Prop)(R:SV→List HO→Prop):W (xwp Tryz.prog X K93 [] 60 (qK Tryz.f26 [] [⟨[0,1,0,1,1,1,1,1,1,1,1],[15,14,13,12,11,7,5,2,0],[]⟩,⟨[0,1,0,1,1,1,1,1,1,1,1,1],[16,14,13,12,11,7,5,2,0],[]⟩,⟨[0,1,1,0,0,1,0,0,1,0,1,1,1,1,1,1,1,1,1],[19,18,16,14,13,12,11,7,5,2,0],[]⟩,⟨[0,1,0,1,1,1,1,1,1,1,1,1,1],[20,14,13,11,7,5,0],[]⟩,⟨[0,1,1,0,0,1,0,0,1,0,1,1,1,1,1,1,1,1,1,1],[22,21,20,14,13,11,7,5,0],[]⟩,⟨[0,1,0,1,0,0,1,0,0,1,1,0,0,1,0,0,1,0,1,1,1,1,1,1,1,1,1,1],[24,23,22,21,20,14,13,11,7,5,0],[]⟩,⟨[0,1,0,1,0,0,1,0,0,1,0,1,0,0,1,0,0,1,1,0,0,1,0,0,1,0,1,1,1,1,1,1,1,1,1,1],[26,25,24,23,22,21,20,14,13,11,7,5,0],[]⟩,⟨[0,1,0,1,1,1,1,1,1,1,1,1,1,1],[27,11,7,5,0],[]⟩]) [] (.at [0,0,1,0,1,1,1,1,1,1,1,1]::.rnd [0,0,1,0,1,1,1,1,1,1,1,1] M::[.blk 0,.at [1,1,1,1,1,1,1,1,1]]) (St.mk [(15,.v (qA (i:Int))),(14,.o 0),(13,.v (qA u)),(12,.p 1 0),(11,.o 2),(7,.p 3 0),(5,.p 4 0),(2,.v (qA k)),(0,.v (qA so))] [.rowc 67 1 n (.fn (cT rows)),.cells [.v (qC 0),.v (qC 0),.v (qC 0),.v (qC 0)] 53,.rowc 111 3 0 (.lit 3 []),.cells [.x 5 [],.x 6 [],.x 7 [],.x 8 []] 42,.cells [.v (qA c.1),.v (qA c.2),.v (qA c.3),.x 9 [],.x 10 [],.x 11 [],.x 12 []] 27,.ext false (.s false 1 s.1.length (cT s.1)),.ext false (.s false 1 s.2.length (cT s.2)),.ext false (.s false 1 s.3.length (cT s.3)),.ext false (.s false 4 s.4.length (cP s.4)),.ext false (.s false 7 c.4.length (cN c.4)),.ext false (.s false 1 c.5.length (cI c.5)),.ext false (.s false 2 c.6.length (cL c.6)),.ext false (.s false 2 c.7.length (cK c.7))]) K R)=W (bif decide ((↑i:Int)<u) then lF c.1 c.2 c.3 c.4.length c.5.length c.6.length c.7.length s.1.length s.2.length s.3.length s.4.length (cN c.4) (cI c.5) (cL c.6) (cK c.7) (cT s.1) (cT s.2) (cT s.3) (cP s.4) fun(c_1:Cir) (s_1:Sht)=>(zY c_1=(0:Int)∧(3:Int)≤k∧k≤(5:Int)∧(0:Int)≤(↑i:Int)∧(↑i:Int)<nOf k)∧(∀ M:Mem,(n+1)*24≤140737488355328∧n+1≤140737488355328)∧K [.rnd [0,0,1,0,1,1,1,1,1,1,1,1] M,.blk 0,.at [1,1,1,1,1,1,1,1,1]] (St.mk [(15,.v (qA (IntKind.wrap .i64 ((↑i:Int)+(1:Int))))),(14,.o 0),(13,.v (qA u)),(12,.p 1 0),(11,.o 2),(7,.p 3 0),(5,.p 4 0),(2,.v (qA k)),(0,.v (qA so))] [.rowc 67 1 (n+1) (.app n (.fn (cT rows)) (.lit 1 [.s false 4 (List.length (zT c_1 s_1 so k (qsN [] c_1.4) (↑i:Int))) (cE (zT c_1 s_1 so k (qsN [] c_1.4) (↑i:Int)))])),.cells [.v (qC 0),.v (qC 0),.v (qC 0),.v (qC 0)] 53,.rowc 111 3 0 (.lit 3 []),.cells [.x 5 [],.x 6 [],.x 7 [],.x 8 []] 42,.cells [.v (qA c.1),.v (qA c.2),.v (qA c.3),.x 9 [],.x 10 [],.x 11 [],.x 12 []] 27,.ext false (.s false 1 s.1.length (cT s.1)),.ext false (.s false 1 s.2.length (cT s.2)),.ext false (.s false 1 s.3.length (cT s.3)),.ext false (.s false 4 s.4.length (cP s.4)),.ext false (.s false 7 c.4.length (cN c.4)),.ext false (.s false 1 c.5.length (cI c.5)),.ext false (.s false 2 c.6.length (cL c.6)),.ext false (.s false 2 c.7.length (cK c.7))]) else K [.at [0,1,0,1,1,1,1,1,1,1,1,1],.blk 2,.at [1,1,1,1,1,1,1,1,1,1]] (St.mk [(16,.v (qA 0)),(14,.o 0),(13,.v (qA u)),(12,.p 1 0),(11,.o 2),(7,.p 3 0),(5,.p 4 0),(2,.v (qA k)),(0,.v (qA so))] [.rowc 67 1 n (.fn (cT rows)),.cells [.v (qC 0),.v (qC 0),.v (qC 0),.v (qC 0)] 53,.rowc 111 3 0 (.lit 3 []),.cells [.x 5 [],.x 6 [],.x 7 [],.x 8 []] 42,.cells [.v (qA c.1),.v (qA c.2),.v (qA c.3),.x 9 [],.x 10 [],.x 11 [],.x 12 []] 27,.ext false (.s false 1 s.1.length (cT s.1)),.ext false (.s false 1 s.2.length (cT s.2)),.ext false (.s false 1 s.3.length (cT s.3)),.ext false (.s false 4 s.4.length (cP s.4)),.ext false (.s false 7 c.4.length (cN c.4)),.ext false (.s false 1 c.5.length (cI c.5)),.ext false (.s false 2 c.6.length (cL c.6)),.ext false (.s false 2 c.7.length (cK c.7))])):=by kernel_rfl
theorem ra1(c:Cir)(s:Sht)(so k:Int)(rows:List (List Nat))(n:Nat)(os:List (Int×Int×Int))(m:Nat)(u:Int)(i M:Nat)(K:List It→St→Prop)(R:SV→List HO→Prop):W (xwp Tryz.prog X K93 [] 60 (qK Tryz.f26 [] [⟨[0,1,0,1,1,1,1,1,1,1,1],[15,14,13,12,11,7,5,2,0],[]⟩,⟨[0,1,0,1,1,1,1,1,1,1,1,1],[16,14,13,12,11,7,5,2,0],[]⟩,⟨[0,1,1,0,0,1,0,0,1,0,1,1,1,1,1,1,1,1,1],[19,18,16,14,13,12,11,7,5,2,0],[]⟩,⟨[0,1,0,1,1,1,1,1,1,1,1,1,1],[20,14,13,11,7,5,0],[]⟩,⟨[0,1,1,0,0,1,0,0,1,0,1,1,1,1,1,1,1,1,1,1],[22,21,20,14,13,11,7,5,0],[]⟩,⟨[0,1,0,1,0,0,1,0,0,1,1,0,0,1,0,0,1,0,1,1,1,1,1,1,1,1,1,1],[24,23,22,21,20,14,13,11,7,5,0],[]⟩,⟨[0,1,0,1,0,0,1,0,0,1,0,1,0,0,1,0,0,1,1,0,0,1,0,0,1,0,1,1,1,1,1,1,1,1,1,1],[26,25,24,23,22,21,20,14,13,11,7,5,0],[]⟩,⟨[0,1,0,1,1,1,1,1,1,1,1,1,1,1],[27,11,7,5,0],[]⟩]) [] (.at [0,0,1,0,1,1,1,1,1,1,1,1,1]::.rnd [0,0,1,0,1,1,1,1,1,1,1,1,1] M::[.blk 2,.at [1,1,1,1,1,1,1,1,1,1]]) (St.mk [(16,.v (qA (i:Int))),(14,.x 0 []),(13,.v (qA u)),(12,.p 1 0),(11,.o 2),(7,.p 3 0),(5,.p 4 0),(2,.v (qA k)),(0,.v (qA so))] [.ext false (.s false 1 n (cT rows)),.cells [.v (qC 0),.v (qC 0),.v (qC 0),.v (qC 0)] 53,.rowc 111 3 m (.fn (cQ os)),.cells [.x 5 [],.x 6 [],.x 7 [],.x 8 []] 42,.cells [.v (qA c.1),.v (qA c.2),.v (qA c.3),.x 9 [],.x 10 [],.x 11 [],.x 12 []] 27,.ext false (.s false 1 s.1.length (cT s.1)),.ext false (.s false 1 s.2.length (cT s.2)),.ext false (.s false 1 s.3.length (cT s.3)),.ext false (.s false 4 s.4.length (cP s.4)),.ext false (.s false 7 c.4.length (cN c.4)),.ext false (.s false 1 c.5.length (cI c.5)),.ext false (.s false 2 c.6.length (cL c.6)),.ext false (.s false 2 c.7.length (cK c.7))]) K R)=W (bif decide ((↑i:Int)<(↑c.5.length:Int)) then(∀ M:Mem,(0:Int)≤(↑i:Int)∧(↑i:Int)<(↑c.5.length:Int))∧(∀ M:Mem,i<List.length c.5)∧lC c.1 c.2 c.3 c.4.length c.5.length c.6.length c.7.length (cN c.4) (cI c.5) (cL c.6) (cK c.7) fun(c_1:Cir)=>K [.at [0,1,1,0,0,1,0,0,1,0,1,1,1,1,1,1,1,1,1],.blk 4,.blk 3,.at [1,1,0,0,1,0,1,1,1,1,1,1,1,1,1],.rnd [0,0,1,0,1,1,1,1,1,1,1,1,1] M,.blk 2,.at [1,1,1,1,1,1,1,1,1,1]] (St.mk [(19,.v (qA (jG c_1 k (gI c.5 i)).1)),(18,.v (qA (jG c_1 k (gI c.5 i)).2)),(16,.v (qA (↑i:Int))),(14,.x 0 []),(13,.v (qA u)),(12,.p 1 0),(11,.o 2),(7,.p 3 0),(5,.p 4 0),(2,.v (qA k)),(0,.v (qA so))] [.ext false (.s false 1 n (cT rows)),.cells [.v (qC 0),.v (qC 0),.v (qC 0),.v (qC 0)] 53,.rowc 111 3 m (.fn (cQ os)),.cells [.x 5 [],.x 6 [],.x 7 [],.x 8 []] 42,.cells [.v (qA c.1),.v (qA c.2),.v (qA c.3),.x 9 [],.x 10 [],.x 11 [],.x 12 []] 27,.ext false (.s false 1 s.1.length (cT s.1)),.ext false (.s false 1 s.2.length (cT s.2)),.ext false (.s false 1 s.3.length (cT s.3)),.ext false (.s false 4 s.4.length (cP s.4)),.ext false (.s false 7 c.4.length (cN c.4)),.ext false (.s false 1 c.5.length (cI c.5)),.ext false (.s false 2 c.6.length (cL c.6)),.ext false (.s false 2 c.7.length (cK c.7))]) else K [.at [0,1,0,1,1,1,1,1,1,1,1,1,1],.blk 6,.at [1,1,1,1,1,1,1,1,1,1,1]] (St.mk [(20,.v (qA 0)),(14,.x 0 []),(13,.v (qA u)),(11,.o 1),(7,.p 2 0),(5,.p 3 0),(0,.v (qA so))] [.ext false (.s false 1 n (cT rows)),.rowc 111 3 m (.fn (cQ os)),.cells [.x 4 [],.x 5 [],.x 6 [],.x 7 []] 42,.cells [.v (qA c.1),.v (qA c.2),.v (qA c.3),.x 8 [],.x 9 [],.x 10 [],.x 11 []] 27,.ext false (.s false 1 s.1.length (cT s.1)),.ext false (.s false 1 s.2.length (cT s.2)),.ext false (.s false 1 s.3.length (cT s.3)),.ext false (.s false 4 s.4.length (cP s.4)),.ext false (.s false 7 c.4.length (cN c.4)),.ext false (.s false 1 c.5.length (cI c.5)),.ext false (.s false 2 c.6.length (cL c.6)),.ext false (.s false 2 c.7.length (cK c.7))])):=by kernel_rfl
theorem ra2(c:Cir)(s:Sht)(so k:Int)(rows:List (List Nat))(n:Nat)(os:List (Int×Int×Int))(m:Nat)(u:Int)(i M2 M:Nat)(r to:Int)(K:List It→St→Prop)(R:SV→List HO→Prop):W (xwp Tryz.prog X K93 [] 60 (qK Tryz.f26 [] [⟨[0,1,0,1,1,1,1,1,1,1,1],[15,14,13,12,11,7,5,2,0],[]⟩,⟨[0,1,0,1,1,1,1,1,1,1,1,1],[16,14,13,12,11,7,5,2,0],[]⟩,⟨[0,1,1,0,0,1,0,0,1,0,1,1,1,1,1,1,1,1,1],[19,18,16,14,13,12,11,7,5,2,0],[]⟩,⟨[0,1,0,1,1,1,1,1,1,1,1,1,1],[20,14,13,11,7,5,0],[]⟩,⟨[0,1,1,0,0,1,0,0,1,0,1,1,1,1,1,1,1,1,1,1],[22,21,20,14,13,11,7,5,0],[]⟩,⟨[0,1,0,1,0,0,1,0,0,1,1,0,0,1,0,0,1,0,1,1,1,1,1,1,1,1,1,1],[24,23,22,21,20,14,13,11,7,5,0],[]⟩,⟨[0,1,0,1,0,0,1,0,0,1,0,1,0,0,1,0,0,1,1,0,0,1,0,0,1,0,1,1,1,1,1,1,1,1,1,1],[26,25,24,23,22,21,20,14,13,11,7,5,0],[]⟩,⟨[0,1,0,1,1,1,1,1,1,1,1,1,1,1],[27,11,7,5,0],[]⟩]) [] (.at [0,0,1,1,0,0,1,0,0,1,0,1,1,1,1,1,1,1,1,1]::.rnd [0,0,1,1,0,0,1,0,0,1,0,1,1,1,1,1,1,1,1,1] M::[.blk 4,.blk 3,.at [1,1,0,0,1,0,1,1,1,1,1,1,1,1,1],.rnd [0,0,1,0,1,1,1,1,1,1,1,1,1] M2,.blk 2,.at [1,1,1,1,1,1,1,1,1,1]]) (St.mk [(19,.v (qA r)),(18,.v (qA to)),(16,.v (qA (↑i:Int))),(14,.x 0 []),(13,.v (qA u)),(12,.p 1 0),(11,.o 2),(7,.p 3 0),(5,.p 4 0),(2,.v (qA k)),(0,.v (qA so))] [.ext false (.s false 1 n (cT rows)),.cells [.v (qC 0),.v (qC 0),.v (qC 0),.v (qC 0)] 53,.rowc 111 3 m (.fn (cQ os)),.cells [.x 5 [],.x 6 [],.x 7 [],.x 8 []] 42,.cells [.v (qA c.1),.v (qA c.2),.v (qA c.3),.x 9 [],.x 10 [],.x 11 [],.x 12 []] 27,.ext false (.s false 1 s.1.length (cT s.1)),.ext false (.s false 1 s.2.length (cT s.2)),.ext false (.s false 1 s.3.length (cT s.3)),.ext false (.s false 4 s.4.length (cP s.4)),.ext false (.s false 7 c.4.length (cN c.4)),.ext false (.s false 1 c.5.length (cI c.5)),.ext false (.s false 2 c.6.length (cL c.6)),.ext false (.s false 2 c.7.length (cK c.7))]) K R)=W (bif decide (r<to) then(∀ M:Mem,(0:Int)≤r∧r<(↑n:Int))∧(∀ M:Mem,Int.toNat r<n)∧(∀ M:Mem,(0:Int)≤(↑i:Int)∧(↑i:Int)<(↑c.5.length:Int))∧(∀ M:Mem,i<List.length c.5)∧(∀ M:Mem,Int.toNat r<n)∧(∀ M:Mem,(0:Int)≤gI c.5 i∧gI c.5 i<(↑(List.length (gT rows (Int.toNat r))):Int))∧(∀ M:Mem,Int.toNat r<n)∧(∀ M:Mem,Int.toNat (gI c.5 i)<List.length (gT rows (Int.toNat r)))∧bif !decide ((eI (gE (gT rows (Int.toNat r)) (Int.toNat (gI c.5 i))))=[(0:Int),(0:Int),(0:Int),(0:Int)]) then(∀ M:Mem,(m+1)*24≤140737488355328∧m+1≤140737488355328)∧K [.rnd [0,0,1,1,0,0,1,0,0,1,0,1,1,1,1,1,1,1,1,1] M,.blk 4,.blk 3,.at [1,1,0,0,1,0,1,1,1,1,1,1,1,1,1],.rnd [0,0,1,0,1,1,1,1,1,1,1,1,1] M2,.blk 2,.at [1,1,1,1,1,1,1,1,1,1]] (St.mk [(19,.v (qA (IntKind.wrap .i64 (r+(1:Int))))),(18,.v (qA to)),(16,.v (qA (↑i:Int))),(14,.x 0 []),(13,.v (qA u)),(12,.p 1 0),(11,.o 2),(7,.p 3 0),(5,.p 4 0),(2,.v (qA k)),(0,.v (qA so))] [.ext false (.s false 1 n (cT rows)),.cells [.v (qC 0),.v (qC 0),.v (qC 0),.v (qC 0)] 53,.rowc 111 3 (m+1) (.app m (.fn (cQ os)) (.lit 3 [.v (qA 1),.v (qA (↑i:Int)),.v (qA r)])),.cells [.x 5 [],.x 6 [],.x 7 [],.x 8 []] 42,.cells [.v (qA c.1),.v (qA c.2),.v (qA c.3),.x 9 [],.x 10 [],.x 11 [],.x 12 []] 27,.ext false (.s false 1 s.1.length (cT s.1)),.ext false (.s false 1 s.2.length (cT s.2)),.ext false (.s false 1 s.3.length (cT s.3)),.ext false (.s false 4 s.4.length (cP s.4)),.ext false (.s false 7 c.4.length (cN c.4)),.ext false (.s false 1 c.5.length (cI c.5)),.ext false (.s false 2 c.6.length (cL c.6)),.ext false (.s false 2 c.7.length (cK c.7))]) else K [.rnd [0,0,1,1,0,0,1,0,0,1,0,1,1,1,1,1,1,1,1,1] M,.blk 4,.blk 3,.at [1,1,0,0,1,0,1,1,1,1,1,1,1,1,1],.rnd [0,0,1,0,1,1,1,1,1,1,1,1,1] M2,.blk 2,.at [1,1,1,1,1,1,1,1,1,1]] (St.mk [(19,.v (qA (IntKind.wrap .i64 (r+(1:Int))))),(18,.v (qA to)),(16,.v (qA (↑i:Int))),(14,.x 0 []),(13,.v (qA u)),(12,.p 1 0),(11,.o 2),(7,.p 3 0),(5,.p 4 0),(2,.v (qA k)),(0,.v (qA so))] [.ext false (.s false 1 n (cT rows)),.cells [.v (qC 0),.v (qC 0),.v (qC 0),.v (qC 0)] 53,.rowc 111 3 m (.fn (cQ os)),.cells [.x 5 [],.x 6 [],.x 7 [],.x 8 []] 42,.cells [.v (qA c.1),.v (qA c.2),.v (qA c.3),.x 9 [],.x 10 [],.x 11 [],.x 12 []] 27,.ext false (.s false 1 s.1.length (cT s.1)),.ext false (.s false 1 s.2.length (cT s.2)),.ext false (.s false 1 s.3.length (cT s.3)),.ext false (.s false 4 s.4.length (cP s.4)),.ext false (.s false 7 c.4.length (cN c.4)),.ext false (.s false 1 c.5.length (cI c.5)),.ext false (.s false 2 c.6.length (cL c.6)),.ext false (.s false 2 c.7.length (cK c.7))]) else K [.rnd [0,0,1,0,1,1,1,1,1,1,1,1,1] M2,.blk 2,.at [1,1,1,1,1,1,1,1,1,1]] (St.mk [(16,.v (qA (IntKind.wrap .i64 ((↑i:Int)+(1:Int))))),(14,.x 0 []),(13,.v (qA u)),(12,.p 1 0),(11,.o 2),(7,.p 3 0),(5,.p 4 0),(2,.v (qA k)),(0,.v (qA so))] [.ext false (.s false 1 n (cT rows)),.cells [.v (qC 0),.v (qC 0),.v (qC 0),.v (qC 0)] 53,.rowc 111 3 m (.fn (cQ os)),.cells [.x 5 [],.x 6 [],.x 7 [],.x 8 []] 42,.cells [.v (qA c.1),.v (qA c.2),.v (qA c.3),.x 9 [],.x 10 [],.x 11 [],.x 12 []] 27,.ext false (.s false 1 s.1.length (cT s.1)),.ext false (.s false 1 s.2.length (cT s.2)),.ext false (.s false 1 s.3.length (cT s.3)),.ext false (.s false 4 s.4.length (cP s.4)),.ext false (.s false 7 c.4.length (cN c.4)),.ext false (.s false 1 c.5.length (cI c.5)),.ext false (.s false 2 c.6.length (cL c.6)),.ext false (.s false 2 c.7.length (cK c.7))])):=by kernel_rfl
theorem ra3(c:Cir)(s:Sht)(so k:Int)(rows:List (List Nat))(n:Nat)(os:List (Int×Int×Int))(m:Nat)(u:Int)(i M:Nat)(K:List It→St→Prop)(R:SV→List HO→Prop):W (xwp Tryz.prog X K93 [] 60 (qK Tryz.f26 [] [⟨[0,1,0,1,1,1,1,1,1,1,1],[15,14,13,12,11,7,5,2,0],[]⟩,⟨[0,1,0,1,1,1,1,1,1,1,1,1],[16,14,13,12,11,7,5,2,0],[]⟩,⟨[0,1,1,0,0,1,0,0,1,0,1,1,1,1,1,1,1,1,1],[19,18,16,14,13,12,11,7,5,2,0],[]⟩,⟨[0,1,0,1,1,1,1,1,1,1,1,1,1],[20,14,13,11,7,5,0],[]⟩,⟨[0,1,1,0,0,1,0,0,1,0,1,1,1,1,1,1,1,1,1,1],[22,21,20,14,13,11,7,5,0],[]⟩,⟨[0,1,0,1,0,0,1,0,0,1,1,0,0,1,0,0,1,0,1,1,1,1,1,1,1,1,1,1],[24,23,22,21,20,14,13,11,7,5,0],[]⟩,⟨[0,1,0,1,0,0,1,0,0,1,0,1,0,0,1,0,0,1,1,0,0,1,0,0,1,0,1,1,1,1,1,1,1,1,1,1],[26,25,24,23,22,21,20,14,13,11,7,5,0],[]⟩,⟨[0,1,0,1,1,1,1,1,1,1,1,1,1,1],[27,11,7,5,0],[]⟩]) [] (.at [0,0,1,0,1,1,1,1,1,1,1,1,1,1]::.rnd [0,0,1,0,1,1,1,1,1,1,1,1,1,1] M::[.blk 6,.at [1,1,1,1,1,1,1,1,1,1,1]]) (St.mk [(20,.v (qA (i:Int))),(14,.x 0 []),(13,.v (qA u)),(11,.o 1),(7,.p 2 0),(5,.p 3 0),(0,.v (qA so))] [.ext false (.s false 1 n (cT rows)),.rowc 111 3 m (.fn (cQ os)),.cells [.x 4 [],.x 5 [],.x 6 [],.x 7 []] 42,.cells [.v (qA c.1),.v (qA c.2),.v (qA c.3),.x 8 [],.x 9 [],.x 10 [],.x 11 []] 27,.ext false (.s false 1 s.1.length (cT s.1)),.ext false (.s false 1 s.2.length (cT s.2)),.ext false (.s false 1 s.3.length (cT s.3)),.ext false (.s false 4 s.4.length (cP s.4)),.ext false (.s false 7 c.4.length (cN c.4)),.ext false (.s false 1 c.5.length (cI c.5)),.ext false (.s false 2 c.6.length (cL c.6)),.ext false (.s false 2 c.7.length (cK c.7))]) K R)=W (bif decide ((↑i:Int)<(↑c.6.length:Int)) then(∀ M:Mem,(0:Int)≤(↑i:Int)∧(↑i:Int)<(↑c.6.length:Int))∧(∀ M:Mem,i<List.length c.6)∧(∀ M:Mem,0+2≤2)∧K [.at [0,1,1,0,0,1,0,0,1,0,1,1,1,1,1,1,1,1,1,1],.blk 8,.blk 7,.at [1,1,0,0,1,0,1,1,1,1,1,1,1,1,1,1],.rnd [0,0,1,0,1,1,1,1,1,1,1,1,1,1] M,.blk 6,.at [1,1,1,1,1,1,1,1,1,1,1]] (St.mk [(22,.v (qA 0)),(21,.p 0 0),(20,.v (qA (↑i:Int))),(14,.x 1 []),(13,.v (qA u)),(11,.o 2),(7,.p 3 0),(5,.p 4 0),(0,.v (qA so))] [.cells [.x 5 [(2,i,0)],.x 5 [(2,i,1)]] 76,.ext false (.s false 1 n (cT rows)),.rowc 111 3 m (.fn (cQ os)),.cells [.x 6 [],.x 7 [],.x 8 [],.x 9 []] 42,.cells [.v (qA c.1),.v (qA c.2),.v (qA c.3),.x 10 [],.x 11 [],.x 5 [],.x 12 []] 27,.ext false (.s false 2 c.6.length (cL c.6)),.ext false (.s false 1 s.1.length (cT s.1)),.ext false (.s false 1 s.2.length (cT s.2)),.ext false (.s false 1 s.3.length (cT s.3)),.ext false (.s false 4 s.4.length (cP s.4)),.ext false (.s false 7 c.4.length (cN c.4)),.ext false (.s false 1 c.5.length (cI c.5)),.ext false (.s false 2 c.7.length (cK c.7))]) else K [.at [0,1,0,1,1,1,1,1,1,1,1,1,1,1],.blk 14,.at [1,1,1,1,1,1,1,1,1,1,1,1]] (St.mk [(27,.v (qA 0)),(11,.o 0),(7,.p 1 0),(5,.p 2 0),(0,.v (qA so))] [.rowc 111 3 m (.fn (cQ os)),.cells [.x 3 [],.x 4 [],.x 5 [],.x 6 []] 42,.cells [.v (qA c.1),.v (qA c.2),.v (qA c.3),.x 7 [],.x 8 [],.x 9 [],.x 10 []] 27,.ext false (.s false 1 s.1.length (cT s.1)),.ext false (.s false 1 s.2.length (cT s.2)),.ext false (.s false 1 s.3.length (cT s.3)),.ext false (.s false 4 s.4.length (cP s.4)),.ext false (.s false 7 c.4.length (cN c.4)),.ext false (.s false 1 c.5.length (cI c.5)),.ext false (.s false 2 c.6.length (cL c.6)),.ext false (.s false 2 c.7.length (cK c.7))])):=by kernel_rfl
theorem ra4(c:Cir)(s:Sht)(so k:Int)(rows:List (List Nat))(n:Nat)(os:List (Int×Int×Int))(m:Nat)(u:Int)(i r M2 M:Nat)(K:List It→St→Prop)(R:SV→List HO→Prop):W (xwp Tryz.prog X K93 [] 60 (qK Tryz.f26 [] [⟨[0,1,0,1,1,1,1,1,1,1,1],[15,14,13,12,11,7,5,2,0],[]⟩,⟨[0,1,0,1,1,1,1,1,1,1,1,1],[16,14,13,12,11,7,5,2,0],[]⟩,⟨[0,1,1,0,0,1,0,0,1,0,1,1,1,1,1,1,1,1,1],[19,18,16,14,13,12,11,7,5,2,0],[]⟩,⟨[0,1,0,1,1,1,1,1,1,1,1,1,1],[20,14,13,11,7,5,0],[]⟩,⟨[0,1,1,0,0,1,0,0,1,0,1,1,1,1,1,1,1,1,1,1],[22,21,20,14,13,11,7,5,0],[]⟩,⟨[0,1,0,1,0,0,1,0,0,1,1,0,0,1,0,0,1,0,1,1,1,1,1,1,1,1,1,1],[24,23,22,21,20,14,13,11,7,5,0],[]⟩,⟨[0,1,0,1,0,0,1,0,0,1,0,1,0,0,1,0,0,1,1,0,0,1,0,0,1,0,1,1,1,1,1,1,1,1,1,1],[26,25,24,23,22,21,20,14,13,11,7,5,0],[]⟩,⟨[0,1,0,1,1,1,1,1,1,1,1,1,1,1],[27,11,7,5,0],[]⟩]) [] (.at [0,0,1,1,0,0,1,0,0,1,0,1,1,1,1,1,1,1,1,1,1]::.rnd [0,0,1,1,0,0,1,0,0,1,0,1,1,1,1,1,1,1,1,1,1] M::[.blk 8,.blk 7,.at [1,1,0,0,1,0,1,1,1,1,1,1,1,1,1,1],.rnd [0,0,1,0,1,1,1,1,1,1,1,1,1,1] M2,.blk 6,.at [1,1,1,1,1,1,1,1,1,1,1]]) (St.mk [(22,.v (qA (r:Int))),(21,.p 0 0),(20,.v (qA (↑i:Int))),(14,.x 1 []),(13,.v (qA u)),(11,.o 2),(7,.p 3 0),(5,.p 4 0),(0,.v (qA so))] [.cells [.x 5 [(2,i,0)],.x 5 [(2,i,1)]] 76,.ext false (.s false 1 n (cT rows)),.rowc 111 3 m (.fn (cQ os)),.cells [.x 6 [],.x 7 [],.x 8 [],.x 9 []] 42,.cells [.v (qA c.1),.v (qA c.2),.v (qA c.3),.x 10 [],.x 11 [],.x 5 [],.x 12 []] 27,.ext false (.s false 2 c.6.length (cL c.6)),.ext false (.s false 1 s.1.length (cT s.1)),.ext false (.s false 1 s.2.length (cT s.2)),.ext false (.s false 1 s.3.length (cT s.3)),.ext false (.s false 4 s.4.length (cP s.4)),.ext false (.s false 7 c.4.length (cN c.4)),.ext false (.s false 1 c.5.length (cI c.5)),.ext false (.s false 2 c.7.length (cK c.7))]) K R)=W (bif decide ((↑r:Int)<u) then K [.at [0,1,0,1,0,0,1,0,0,1,1,0,0,1,0,0,1,0,1,1,1,1,1,1,1,1,1,1],.blk 10,.at [1,1,0,0,1,0,0,1,1,0,0,1,0,0,1,0,1,1,1,1,1,1,1,1,1,1],.blk 9,.at [1,1,0,0,1,1,0,0,1,0,0,1,0,1,1,1,1,1,1,1,1,1,1],.rnd [0,0,1,1,0,0,1,0,0,1,0,1,1,1,1,1,1,1,1,1,1] M,.blk 8,.blk 7,.at [1,1,0,0,1,0,1,1,1,1,1,1,1,1,1,1],.rnd [0,0,1,0,1,1,1,1,1,1,1,1,1,1] M2,.blk 6,.at [1,1,1,1,1,1,1,1,1,1,1]] (St.mk [(24,.v (qA 0)),(23,.v (.bool false)),(22,.v (qA (↑r:Int))),(21,.p 0 0),(20,.v (qA (↑i:Int))),(14,.x 1 []),(13,.v (qA u)),(11,.o 2),(7,.p 3 0),(5,.p 4 0),(0,.v (qA so))] [.cells [.x 5 [(2,i,0)],.x 5 [(2,i,1)]] 76,.ext false (.s false 1 n (cT rows)),.rowc 111 3 m (.fn (cQ os)),.cells [.x 6 [],.x 7 [],.x 8 [],.x 9 []] 42,.cells [.v (qA c.1),.v (qA c.2),.v (qA c.3),.x 10 [],.x 11 [],.x 5 [],.x 12 []] 27,.ext false (.s false 2 c.6.length (cL c.6)),.ext false (.s false 1 s.1.length (cT s.1)),.ext false (.s false 1 s.2.length (cT s.2)),.ext false (.s false 1 s.3.length (cT s.3)),.ext false (.s false 4 s.4.length (cP s.4)),.ext false (.s false 7 c.4.length (cN c.4)),.ext false (.s false 1 c.5.length (cI c.5)),.ext false (.s false 2 c.7.length (cK c.7))]) else K [.rnd [0,0,1,0,1,1,1,1,1,1,1,1,1,1] M2,.blk 6,.at [1,1,1,1,1,1,1,1,1,1,1]] (St.mk [(20,.v (qA (IntKind.wrap .i64 ((↑i:Int)+(1:Int))))),(14,.x 0 []),(13,.v (qA u)),(11,.o 1),(7,.p 2 0),(5,.p 3 0),(0,.v (qA so))] [.ext false (.s false 1 n (cT rows)),.rowc 111 3 m (.fn (cQ os)),.cells [.x 4 [],.x 5 [],.x 6 [],.x 7 []] 42,.cells [.v (qA c.1),.v (qA c.2),.v (qA c.3),.x 8 [],.x 9 [],.x 10 [],.x 11 []] 27,.ext false (.s false 1 s.1.length (cT s.1)),.ext false (.s false 1 s.2.length (cT s.2)),.ext false (.s false 1 s.3.length (cT s.3)),.ext false (.s false 4 s.4.length (cP s.4)),.ext false (.s false 7 c.4.length (cN c.4)),.ext false (.s false 1 c.5.length (cI c.5)),.ext false (.s false 2 c.6.length (cL c.6)),.ext false (.s false 2 c.7.length (cK c.7))])):=by kernel_rfl
theorem ra5(c:Cir)(s:Sht)(so k:Int)(rows:List (List Nat))(n:Nat)(os:List (Int×Int×Int))(m:Nat)(u:Int)(fd:Bool)(i r t M2 M3 M:Nat)(K:List It→St→Prop)(R:SV→List HO→Prop):W (xwp Tryz.prog X K93 [] 60 (qK Tryz.f26 [] [⟨[0,1,0,1,1,1,1,1,1,1,1],[15,14,13,12,11,7,5,2,0],[]⟩,⟨[0,1,0,1,1,1,1,1,1,1,1,1],[16,14,13,12,11,7,5,2,0],[]⟩,⟨[0,1,1,0,0,1,0,0,1,0,1,1,1,1,1,1,1,1,1],[19,18,16,14,13,12,11,7,5,2,0],[]⟩,⟨[0,1,0,1,1,1,1,1,1,1,1,1,1],[20,14,13,11,7,5,0],[]⟩,⟨[0,1,1,0,0,1,0,0,1,0,1,1,1,1,1,1,1,1,1,1],[22,21,20,14,13,11,7,5,0],[]⟩,⟨[0,1,0,1,0,0,1,0,0,1,1,0,0,1,0,0,1,0,1,1,1,1,1,1,1,1,1,1],[24,23,22,21,20,14,13,11,7,5,0],[]⟩,⟨[0,1,0,1,0,0,1,0,0,1,0,1,0,0,1,0,0,1,1,0,0,1,0,0,1,0,1,1,1,1,1,1,1,1,1,1],[26,25,24,23,22,21,20,14,13,11,7,5,0],[]⟩,⟨[0,1,0,1,1,1,1,1,1,1,1,1,1,1],[27,11,7,5,0],[]⟩]) [] (.at [0,0,1,0,1,0,0,1,0,0,1,1,0,0,1,0,0,1,0,1,1,1,1,1,1,1,1,1,1]::.rnd [0,0,1,0,1,0,0,1,0,0,1,1,0,0,1,0,0,1,0,1,1,1,1,1,1,1,1,1,1] M::[.blk 10,.at [1,1,0,0,1,0,0,1,1,0,0,1,0,0,1,0,1,1,1,1,1,1,1,1,1,1],.blk 9,.at [1,1,0,0,1,1,0,0,1,0,0,1,0,1,1,1,1,1,1,1,1,1,1],.rnd [0,0,1,1,0,0,1,0,0,1,0,1,1,1,1,1,1,1,1,1,1] M3,.blk 8,.blk 7,.at [1,1,0,0,1,0,1,1,1,1,1,1,1,1,1,1],.rnd [0,0,1,0,1,1,1,1,1,1,1,1,1,1] M2,.blk 6,.at [1,1,1,1,1,1,1,1,1,1,1]]) (St.mk [(24,.v (qA (t:Int))),(23,.v (.bool fd)),(22,.v (qA (↑r:Int))),(21,.p 0 0),(20,.v (qA (↑i:Int))),(14,.x 1 []),(13,.v (qA u)),(11,.o 2),(7,.p 3 0),(5,.p 4 0),(0,.v (qA so))] [.cells [.x 5 [(2,i,0)],.x 5 [(2,i,1)]] 76,.ext false (.s false 1 n (cT rows)),.rowc 111 3 m (.fn (cQ os)),.cells [.x 6 [],.x 7 [],.x 8 [],.x 9 []] 42,.cells [.v (qA c.1),.v (qA c.2),.v (qA c.3),.x 10 [],.x 11 [],.x 5 [],.x 12 []] 27,.ext false (.s false 2 c.6.length (cL c.6)),.ext false (.s false 1 s.1.length (cT s.1)),.ext false (.s false 1 s.2.length (cT s.2)),.ext false (.s false 1 s.3.length (cT s.3)),.ext false (.s false 4 s.4.length (cP s.4)),.ext false (.s false 7 c.4.length (cN c.4)),.ext false (.s false 1 c.5.length (cI c.5)),.ext false (.s false 2 c.7.length (cK c.7))]) K R)=W (bif decide ((↑t:Int)<u) then K [.at [0,1,0,1,0,0,1,0,0,1,0,1,0,0,1,0,0,1,1,0,0,1,0,0,1,0,1,1,1,1,1,1,1,1,1,1],.blk 12,.at [1,1,0,0,1,0,0,1,0,1,0,0,1,0,0,1,1,0,0,1,0,0,1,0,1,1,1,1,1,1,1,1,1,1],.blk 11,.at [1,1,0,0,1,0,1,0,0,1,0,0,1,1,0,0,1,0,0,1,0,1,1,1,1,1,1,1,1,1,1],.rnd [0,0,1,0,1,0,0,1,0,0,1,1,0,0,1,0,0,1,0,1,1,1,1,1,1,1,1,1,1] M,.blk 10,.at [1,1,0,0,1,0,0,1,1,0,0,1,0,0,1,0,1,1,1,1,1,1,1,1,1,1],.blk 9,.at [1,1,0,0,1,1,0,0,1,0,0,1,0,1,1,1,1,1,1,1,1,1,1],.rnd [0,0,1,1,0,0,1,0,0,1,0,1,1,1,1,1,1,1,1,1,1] M3,.blk 8,.blk 7,.at [1,1,0,0,1,0,1,1,1,1,1,1,1,1,1,1],.rnd [0,0,1,0,1,1,1,1,1,1,1,1,1,1] M2,.blk 6,.at [1,1,1,1,1,1,1,1,1,1,1]] (St.mk [(26,.v (qA 0)),(25,.v (.bool true)),(24,.v (qA (↑t:Int))),(23,.v (.bool fd)),(22,.v (qA (↑r:Int))),(21,.p 0 0),(20,.v (qA (↑i:Int))),(14,.x 1 []),(13,.v (qA u)),(11,.o 2),(7,.p 3 0),(5,.p 4 0),(0,.v (qA so))] [.cells [.x 5 [(2,i,0)],.x 5 [(2,i,1)]] 76,.ext false (.s false 1 n (cT rows)),.rowc 111 3 m (.fn (cQ os)),.cells [.x 6 [],.x 7 [],.x 8 [],.x 9 []] 42,.cells [.v (qA c.1),.v (qA c.2),.v (qA c.3),.x 10 [],.x 11 [],.x 5 [],.x 12 []] 27,.ext false (.s false 2 c.6.length (cL c.6)),.ext false (.s false 1 s.1.length (cT s.1)),.ext false (.s false 1 s.2.length (cT s.2)),.ext false (.s false 1 s.3.length (cT s.3)),.ext false (.s false 4 s.4.length (cP s.4)),.ext false (.s false 7 c.4.length (cN c.4)),.ext false (.s false 1 c.5.length (cI c.5)),.ext false (.s false 2 c.7.length (cK c.7))]) else bif !fd then(∀ M:Mem,(m+1)*24≤140737488355328∧m+1≤140737488355328)∧K [.rnd [0,0,1,1,0,0,1,0,0,1,0,1,1,1,1,1,1,1,1,1,1] M3,.blk 8,.blk 7,.at [1,1,0,0,1,0,1,1,1,1,1,1,1,1,1,1],.rnd [0,0,1,0,1,1,1,1,1,1,1,1,1,1] M2,.blk 6,.at [1,1,1,1,1,1,1,1,1,1,1]] (St.mk [(22,.v (qA (IntKind.wrap .i64 ((↑r:Int)+(1:Int))))),(21,.p 0 0),(20,.v (qA (↑i:Int))),(14,.x 1 []),(13,.v (qA u)),(11,.o 2),(7,.p 3 0),(5,.p 4 0),(0,.v (qA so))] [.cells [.x 5 [(2,i,0)],.x 5 [(2,i,1)]] 76,.ext false (.s false 1 n (cT rows)),.rowc 111 3 (m+1) (.app m (.fn (cQ os)) (.lit 3 [.v (qA 2),.v (qA (↑i:Int)),.v (qA (↑r:Int))])),.cells [.x 6 [],.x 7 [],.x 8 [],.x 9 []] 42,.cells [.v (qA c.1),.v (qA c.2),.v (qA c.3),.x 10 [],.x 11 [],.x 5 [],.x 12 []] 27,.ext false (.s false 2 c.6.length (cL c.6)),.ext false (.s false 1 s.1.length (cT s.1)),.ext false (.s false 1 s.2.length (cT s.2)),.ext false (.s false 1 s.3.length (cT s.3)),.ext false (.s false 4 s.4.length (cP s.4)),.ext false (.s false 7 c.4.length (cN c.4)),.ext false (.s false 1 c.5.length (cI c.5)),.ext false (.s false 2 c.7.length (cK c.7))]) else K [.rnd [0,0,1,1,0,0,1,0,0,1,0,1,1,1,1,1,1,1,1,1,1] M3,.blk 8,.blk 7,.at [1,1,0,0,1,0,1,1,1,1,1,1,1,1,1,1],.rnd [0,0,1,0,1,1,1,1,1,1,1,1,1,1] M2,.blk 6,.at [1,1,1,1,1,1,1,1,1,1,1]] (St.mk [(22,.v (qA (IntKind.wrap .i64 ((↑r:Int)+(1:Int))))),(21,.p 0 0),(20,.v (qA (↑i:Int))),(14,.x 1 []),(13,.v (qA u)),(11,.o 2),(7,.p 3 0),(5,.p 4 0),(0,.v (qA so))] [.cells [.x 5 [(2,i,0)],.x 5 [(2,i,1)]] 76,.ext false (.s false 1 n (cT rows)),.rowc 111 3 m (.fn (cQ os)),.cells [.x 6 [],.x 7 [],.x 8 [],.x 9 []] 42,.cells [.v (qA c.1),.v (qA c.2),.v (qA c.3),.x 10 [],.x 11 [],.x 5 [],.x 12 []] 27,.ext false (.s false 2 c.6.length (cL c.6)),.ext false (.s false 1 s.1.length (cT s.1)),.ext false (.s false 1 s.2.length (cT s.2)),.ext false (.s false 1 s.3.length (cT s.3)),.ext false (.s false 4 s.4.length (cP s.4)),.ext false (.s false 7 c.4.length (cN c.4)),.ext false (.s false 1 c.5.length (cI c.5)),.ext false (.s false 2 c.7.length (cK c.7))])):=by kernel_rfl
theorem ra6(c:Cir)(s:Sht)(so k:Int)(rows:List (List Nat))(n:Nat)(os:List (Int×Int×Int))(m:Nat)(u:Int)(fd sm:Bool)(i r t j M2 M3 M4 M:Nat)(K:List It→St→Prop)(R:SV→List HO→Prop):W (xwp Tryz.prog X K93 [] 60 (qK Tryz.f26 [] [⟨[0,1,0,1,1,1,1,1,1,1,1],[15,14,13,12,11,7,5,2,0],[]⟩,⟨[0,1,0,1,1,1,1,1,1,1,1,1],[16,14,13,12,11,7,5,2,0],[]⟩,⟨[0,1,1,0,0,1,0,0,1,0,1,1,1,1,1,1,1,1,1],[19,18,16,14,13,12,11,7,5,2,0],[]⟩,⟨[0,1,0,1,1,1,1,1,1,1,1,1,1],[20,14,13,11,7,5,0],[]⟩,⟨[0,1,1,0,0,1,0,0,1,0,1,1,1,1,1,1,1,1,1,1],[22,21,20,14,13,11,7,5,0],[]⟩,⟨[0,1,0,1,0,0,1,0,0,1,1,0,0,1,0,0,1,0,1,1,1,1,1,1,1,1,1,1],[24,23,22,21,20,14,13,11,7,5,0],[]⟩,⟨[0,1,0,1,0,0,1,0,0,1,0,1,0,0,1,0,0,1,1,0,0,1,0,0,1,0,1,1,1,1,1,1,1,1,1,1],[26,25,24,23,22,21,20,14,13,11,7,5,0],[]⟩,⟨[0,1,0,1,1,1,1,1,1,1,1,1,1,1],[27,11,7,5,0],[]⟩]) [] (.at [0,0,1,0,1,0,0,1,0,0,1,0,1,0,0,1,0,0,1,1,0,0,1,0,0,1,0,1,1,1,1,1,1,1,1,1,1]::.rnd [0,0,1,0,1,0,0,1,0,0,1,0,1,0,0,1,0,0,1,1,0,0,1,0,0,1,0,1,1,1,1,1,1,1,1,1,1] M::[.blk 12,.at [1,1,0,0,1,0,0,1,0,1,0,0,1,0,0,1,1,0,0,1,0,0,1,0,1,1,1,1,1,1,1,1,1,1],.blk 11,.at [1,1,0,0,1,0,1,0,0,1,0,0,1,1,0,0,1,0,0,1,0,1,1,1,1,1,1,1,1,1,1],.rnd [0,0,1,0,1,0,0,1,0,0,1,1,0,0,1,0,0,1,0,1,1,1,1,1,1,1,1,1,1] M4,.blk 10,.at [1,1,0,0,1,0,0,1,1,0,0,1,0,0,1,0,1,1,1,1,1,1,1,1,1,1],.blk 9,.at [1,1,0,0,1,1,0,0,1,0,0,1,0,1,1,1,1,1,1,1,1,1,1],.rnd [0,0,1,1,0,0,1,0,0,1,0,1,1,1,1,1,1,1,1,1,1] M3,.blk 8,.blk 7,.at [1,1,0,0,1,0,1,1,1,1,1,1,1,1,1,1],.rnd [0,0,1,0,1,1,1,1,1,1,1,1,1,1] M2,.blk 6,.at [1,1,1,1,1,1,1,1,1,1,1]]) (St.mk [(26,.v (qA (j:Int))),(25,.v (.bool sm)),(24,.v (qA (↑t:Int))),(23,.v (.bool fd)),(22,.v (qA (↑r:Int))),(21,.p 0 0),(20,.v (qA (↑i:Int))),(14,.x 1 []),(13,.v (qA u)),(11,.o 2),(7,.p 3 0),(5,.p 4 0),(0,.v (qA so))] [.cells [.x 5 [(2,i,0)],.x 5 [(2,i,1)]] 76,.ext false (.s false 1 n (cT rows)),.rowc 111 3 m (.fn (cQ os)),.cells [.x 6 [],.x 7 [],.x 8 [],.x 9 []] 42,.cells [.v (qA c.1),.v (qA c.2),.v (qA c.3),.x 10 [],.x 11 [],.x 5 [],.x 12 []] 27,.ext false (.s false 2 c.6.length (cL c.6)),.ext false (.s false 1 s.1.length (cT s.1)),.ext false (.s false 1 s.2.length (cT s.2)),.ext false (.s false 1 s.3.length (cT s.3)),.ext false (.s false 4 s.4.length (cP s.4)),.ext false (.s false 7 c.4.length (cN c.4)),.ext false (.s false 1 c.5.length (cI c.5)),.ext false (.s false 2 c.7.length (cK c.7))]) K R)=W ((∀ M:Mem,i<List.length c.6)∧bif decide ((↑j:Int)<(↑(List.length (gL c.6 i).1):Int)) then bif sm then(∀ M:Mem,(0:Int)≤(↑r:Int)∧(↑r:Int)<(↑n:Int))∧(∀ M:Mem,r<n)∧(∀ M:Mem,i<List.length c.6)∧(∀ M:Mem,(0:Int)≤(↑j:Int)∧(↑j:Int)<(↑(List.length (gL c.6 i).1):Int))∧(∀ M:Mem,i<List.length c.6)∧(∀ M:Mem,j<List.length (gL c.6 i).1)∧(∀ M:Mem,r<n)∧(∀ M:Mem,(0:Int)≤gI (gL c.6 i).1 j∧gI (gL c.6 i).1 j<(↑(List.length (gT rows r)):Int))∧(∀ M:Mem,r<n)∧(∀ M:Mem,Int.toNat (gI (gL c.6 i).1 j)<List.length (gT rows r))∧(∀ M:Mem,(0:Int)≤(↑t:Int)∧(↑t:Int)<(↑n:Int))∧(∀ M:Mem,t<n)∧(∀ M:Mem,i<List.length c.6)∧(∀ M:Mem,(0:Int)≤(↑j:Int)∧(↑j:Int)<(↑(List.length (gL c.6 i).2):Int))∧(∀ M:Mem,i<List.length c.6)∧(∀ M:Mem,j<List.length (gL c.6 i).2)∧(∀ M:Mem,t<n)∧(∀ M:Mem,(0:Int)≤gI (gL c.6 i).2 j∧gI (gL c.6 i).2 j<(↑(List.length (gT rows t)):Int))∧(∀ M:Mem,t<n)∧(∀ M:Mem,Int.toNat (gI (gL c.6 i).2 j)<List.length (gT rows t))∧K [.rnd [0,0,1,0,1,0,0,1,0,0,1,0,1,0,0,1,0,0,1,1,0,0,1,0,0,1,0,1,1,1,1,1,1,1,1,1,1] M,.blk 12,.at [1,1,0,0,1,0,0,1,0,1,0,0,1,0,0,1,1,0,0,1,0,0,1,0,1,1,1,1,1,1,1,1,1,1],.blk 11,.at [1,1,0,0,1,0,1,0,0,1,0,0,1,1,0,0,1,0,0,1,0,1,1,1,1,1,1,1,1,1,1],.rnd [0,0,1,0,1,0,0,1,0,0,1,1,0,0,1,0,0,1,0,1,1,1,1,1,1,1,1,1,1] M4,.blk 10,.at [1,1,0,0,1,0,0,1,1,0,0,1,0,0,1,0,1,1,1,1,1,1,1,1,1,1],.blk 9,.at [1,1,0,0,1,1,0,0,1,0,0,1,0,1,1,1,1,1,1,1,1,1,1],.rnd [0,0,1,1,0,0,1,0,0,1,0,1,1,1,1,1,1,1,1,1,1] M3,.blk 8,.blk 7,.at [1,1,0,0,1,0,1,1,1,1,1,1,1,1,1,1],.rnd [0,0,1,0,1,1,1,1,1,1,1,1,1,1] M2,.blk 6,.at [1,1,1,1,1,1,1,1,1,1,1]] (St.mk [(26,.v (qA (IntKind.wrap .i64 ((↑j:Int)+(1:Int))))),(25,.v (.bool (decide ((eI (gE (gT rows r) (Int.toNat (gI (gL c.6 i).1 j))))=(eI (gE (gT rows t) (Int.toNat (gI (gL c.6 i).2 j)))))))),(24,.v (qA (↑t:Int))),(23,.v (.bool fd)),(22,.v (qA (↑r:Int))),(21,.p 0 0),(20,.v (qA (↑i:Int))),(14,.x 1 []),(13,.v (qA u)),(11,.o 2),(7,.p 3 0),(5,.p 4 0),(0,.v (qA so))] [.cells [.x 5 [(2,i,0)],.x 5 [(2,i,1)]] 76,.ext false (.s false 1 n (cT rows)),.rowc 111 3 m (.fn (cQ os)),.cells [.x 6 [],.x 7 [],.x 8 [],.x 9 []] 42,.cells [.v (qA c.1),.v (qA c.2),.v (qA c.3),.x 10 [],.x 11 [],.x 5 [],.x 12 []] 27,.ext false (.s false 2 c.6.length (cL c.6)),.ext false (.s false 1 s.1.length (cT s.1)),.ext false (.s false 1 s.2.length (cT s.2)),.ext false (.s false 1 s.3.length (cT s.3)),.ext false (.s false 4 s.4.length (cP s.4)),.ext false (.s false 7 c.4.length (cN c.4)),.ext false (.s false 1 c.5.length (cI c.5)),.ext false (.s false 2 c.7.length (cK c.7))]) else K [.rnd [0,0,1,0,1,0,0,1,0,0,1,0,1,0,0,1,0,0,1,1,0,0,1,0,0,1,0,1,1,1,1,1,1,1,1,1,1] M,.blk 12,.at [1,1,0,0,1,0,0,1,0,1,0,0,1,0,0,1,1,0,0,1,0,0,1,0,1,1,1,1,1,1,1,1,1,1],.blk 11,.at [1,1,0,0,1,0,1,0,0,1,0,0,1,1,0,0,1,0,0,1,0,1,1,1,1,1,1,1,1,1,1],.rnd [0,0,1,0,1,0,0,1,0,0,1,1,0,0,1,0,0,1,0,1,1,1,1,1,1,1,1,1,1] M4,.blk 10,.at [1,1,0,0,1,0,0,1,1,0,0,1,0,0,1,0,1,1,1,1,1,1,1,1,1,1],.blk 9,.at [1,1,0,0,1,1,0,0,1,0,0,1,0,1,1,1,1,1,1,1,1,1,1],.rnd [0,0,1,1,0,0,1,0,0,1,0,1,1,1,1,1,1,1,1,1,1] M3,.blk 8,.blk 7,.at [1,1,0,0,1,0,1,1,1,1,1,1,1,1,1,1],.rnd [0,0,1,0,1,1,1,1,1,1,1,1,1,1] M2,.blk 6,.at [1,1,1,1,1,1,1,1,1,1,1]] (St.mk [(26,.v (qA (IntKind.wrap .i64 ((↑j:Int)+(1:Int))))),(25,.v (.bool false)),(24,.v (qA (↑t:Int))),(23,.v (.bool fd)),(22,.v (qA (↑r:Int))),(21,.p 0 0),(20,.v (qA (↑i:Int))),(14,.x 1 []),(13,.v (qA u)),(11,.o 2),(7,.p 3 0),(5,.p 4 0),(0,.v (qA so))] [.cells [.x 5 [(2,i,0)],.x 5 [(2,i,1)]] 76,.ext false (.s false 1 n (cT rows)),.rowc 111 3 m (.fn (cQ os)),.cells [.x 6 [],.x 7 [],.x 8 [],.x 9 []] 42,.cells [.v (qA c.1),.v (qA c.2),.v (qA c.3),.x 10 [],.x 11 [],.x 5 [],.x 12 []] 27,.ext false (.s false 2 c.6.length (cL c.6)),.ext false (.s false 1 s.1.length (cT s.1)),.ext false (.s false 1 s.2.length (cT s.2)),.ext false (.s false 1 s.3.length (cT s.3)),.ext false (.s false 4 s.4.length (cP s.4)),.ext false (.s false 7 c.4.length (cN c.4)),.ext false (.s false 1 c.5.length (cI c.5)),.ext false (.s false 2 c.7.length (cK c.7))]) else bif fd then K [.rnd [0,0,1,0,1,0,0,1,0,0,1,1,0,0,1,0,0,1,0,1,1,1,1,1,1,1,1,1,1] M4,.blk 10,.at [1,1,0,0,1,0,0,1,1,0,0,1,0,0,1,0,1,1,1,1,1,1,1,1,1,1],.blk 9,.at [1,1,0,0,1,1,0,0,1,0,0,1,0,1,1,1,1,1,1,1,1,1,1],.rnd [0,0,1,1,0,0,1,0,0,1,0,1,1,1,1,1,1,1,1,1,1] M3,.blk 8,.blk 7,.at [1,1,0,0,1,0,1,1,1,1,1,1,1,1,1,1],.rnd [0,0,1,0,1,1,1,1,1,1,1,1,1,1] M2,.blk 6,.at [1,1,1,1,1,1,1,1,1,1,1]] (St.mk [(24,.v (qA (IntKind.wrap .i64 ((↑t:Int)+(1:Int))))),(23,.v (.bool true)),(22,.v (qA (↑r:Int))),(21,.p 0 0),(20,.v (qA (↑i:Int))),(14,.x 1 []),(13,.v (qA u)),(11,.o 2),(7,.p 3 0),(5,.p 4 0),(0,.v (qA so))] [.cells [.x 5 [(2,i,0)],.x 5 [(2,i,1)]] 76,.ext false (.s false 1 n (cT rows)),.rowc 111 3 m (.fn (cQ os)),.cells [.x 6 [],.x 7 [],.x 8 [],.x 9 []] 42,.cells [.v (qA c.1),.v (qA c.2),.v (qA c.3),.x 10 [],.x 11 [],.x 5 [],.x 12 []] 27,.ext false (.s false 2 c.6.length (cL c.6)),.ext false (.s false 1 s.1.length (cT s.1)),.ext false (.s false 1 s.2.length (cT s.2)),.ext false (.s false 1 s.3.length (cT s.3)),.ext false (.s false 4 s.4.length (cP s.4)),.ext false (.s false 7 c.4.length (cN c.4)),.ext false (.s false 1 c.5.length (cI c.5)),.ext false (.s false 2 c.7.length (cK c.7))]) else K [.rnd [0,0,1,0,1,0,0,1,0,0,1,1,0,0,1,0,0,1,0,1,1,1,1,1,1,1,1,1,1] M4,.blk 10,.at [1,1,0,0,1,0,0,1,1,0,0,1,0,0,1,0,1,1,1,1,1,1,1,1,1,1],.blk 9,.at [1,1,0,0,1,1,0,0,1,0,0,1,0,1,1,1,1,1,1,1,1,1,1],.rnd [0,0,1,1,0,0,1,0,0,1,0,1,1,1,1,1,1,1,1,1,1] M3,.blk 8,.blk 7,.at [1,1,0,0,1,0,1,1,1,1,1,1,1,1,1,1],.rnd [0,0,1,0,1,1,1,1,1,1,1,1,1,1] M2,.blk 6,.at [1,1,1,1,1,1,1,1,1,1,1]] (St.mk [(24,.v (qA (IntKind.wrap .i64 ((↑t:Int)+(1:Int))))),(23,.v (.bool sm)),(22,.v (qA (↑r:Int))),(21,.p 0 0),(20,.v (qA (↑i:Int))),(14,.x 1 []),(13,.v (qA u)),(11,.o 2),(7,.p 3 0),(5,.p 4 0),(0,.v (qA so))] [.cells [.x 5 [(2,i,0)],.x 5 [(2,i,1)]] 76,.ext false (.s false 1 n (cT rows)),.rowc 111 3 m (.fn (cQ os)),.cells [.x 6 [],.x 7 [],.x 8 [],.x 9 []] 42,.cells [.v (qA c.1),.v (qA c.2),.v (qA c.3),.x 10 [],.x 11 [],.x 5 [],.x 12 []] 27,.ext false (.s false 2 c.6.length (cL c.6)),.ext false (.s false 1 s.1.length (cT s.1)),.ext false (.s false 1 s.2.length (cT s.2)),.ext false (.s false 1 s.3.length (cT s.3)),.ext false (.s false 4 s.4.length (cP s.4)),.ext false (.s false 7 c.4.length (cN c.4)),.ext false (.s false 1 c.5.length (cI c.5)),.ext false (.s false 2 c.7.length (cK c.7))])):=by kernel_rfl
theorem ra7(c:Cir)(s:Sht)(so k:Int)(rows:List (List Nat))(n:Nat)(os:List (Int×Int×Int))(m:Nat)(i M:Nat)(K:List It→St→Prop)(R:SV→List HO→Prop):W (xwp Tryz.prog X K93 [] 60 (qK Tryz.f26 [] [⟨[0,1,0,1,1,1,1,1,1,1,1],[15,14,13,12,11,7,5,2,0],[]⟩,⟨[0,1,0,1,1,1,1,1,1,1,1,1],[16,14,13,12,11,7,5,2,0],[]⟩,⟨[0,1,1,0,0,1,0,0,1,0,1,1,1,1,1,1,1,1,1],[19,18,16,14,13,12,11,7,5,2,0],[]⟩,⟨[0,1,0,1,1,1,1,1,1,1,1,1,1],[20,14,13,11,7,5,0],[]⟩,⟨[0,1,1,0,0,1,0,0,1,0,1,1,1,1,1,1,1,1,1,1],[22,21,20,14,13,11,7,5,0],[]⟩,⟨[0,1,0,1,0,0,1,0,0,1,1,0,0,1,0,0,1,0,1,1,1,1,1,1,1,1,1,1],[24,23,22,21,20,14,13,11,7,5,0],[]⟩,⟨[0,1,0,1,0,0,1,0,0,1,0,1,0,0,1,0,0,1,1,0,0,1,0,0,1,0,1,1,1,1,1,1,1,1,1,1],[26,25,24,23,22,21,20,14,13,11,7,5,0],[]⟩,⟨[0,1,0,1,1,1,1,1,1,1,1,1,1,1],[27,11,7,5,0],[]⟩]) [] (.at [0,0,1,0,1,1,1,1,1,1,1,1,1,1,1]::.rnd [0,0,1,0,1,1,1,1,1,1,1,1,1,1,1] M::[.blk 14,.at [1,1,1,1,1,1,1,1,1,1,1,1]]) (St.mk [(27,.v (qA (i:Int))),(11,.o 0),(7,.p 1 0),(5,.p 2 0),(0,.v (qA so))] [.rowc 111 3 m (.fn (cQ os)),.cells [.x 3 [],.x 4 [],.x 5 [],.x 6 []] 42,.cells [.v (qA c.1),.v (qA c.2),.v (qA c.3),.x 7 [],.x 8 [],.x 9 [],.x 10 []] 27,.ext false (.s false 1 s.1.length (cT s.1)),.ext false (.s false 1 s.2.length (cT s.2)),.ext false (.s false 1 s.3.length (cT s.3)),.ext false (.s false 4 s.4.length (cP s.4)),.ext false (.s false 7 c.4.length (cN c.4)),.ext false (.s false 1 c.5.length (cI c.5)),.ext false (.s false 2 c.6.length (cL c.6)),.ext false (.s false 2 c.7.length (cK c.7))]) K R)=W (bif decide ((↑i:Int)<(↑s.4.length:Int)) then((∀ M:Mem,(0:Int)≤(↑i:Int)∧(↑i:Int)<(↑s.4.length:Int))∧(∀ M:Mem,i<List.length s.4)∧(∀ M:Mem,0+4≤4)∧(∀ M:Mem,(0:Int)≤(gP s.4 i).1∧(gP s.4 i).1<(↑c.7.length:Int))∧(∀ M:Mem,Int.toNat (gP s.4 i).1<List.length c.7)∧(∀ M:Mem,Int.toNat (gP s.4 i).1<List.length c.7)∧(∀ M:Mem,(0:Int)≤(gP s.4 i).1∧(gP s.4 i).1<(↑c.7.length:Int))∧(∀ M:Mem,Int.toNat (gP s.4 i).1<List.length c.7)∧(∀ M:Mem,Int.toNat (gP s.4 i).1<List.length c.7)∧lS s.1.length s.2.length s.3.length s.4.length (cT s.1) (cT s.2) (cT s.3) (cP s.4) fun(s_1:Sht)=>((∀ M:Mem,0+4≤4)∧(∀ M:Mem,(0:Int)≤(gP s.4 i).2.2.1∧(gP s.4 i).2.2.1<(↑c.7.length:Int))∧(∀ M:Mem,Int.toNat (gP s.4 i).2.2.1<List.length c.7)∧(∀ M:Mem,Int.toNat (gP s.4 i).2.2.1<List.length c.7)∧(∀ M:Mem,(0:Int)≤(gP s.4 i).2.2.1∧(gP s.4 i).2.2.1<(↑c.7.length:Int))∧(∀ M:Mem,Int.toNat (gP s.4 i).2.2.1<List.length c.7)∧(∀ M:Mem,Int.toNat (gP s.4 i).2.2.1<List.length c.7)∧lS s.1.length s.2.length s.3.length s.4.length (cT s.1) (cT s.2) (cT s.3) (cP s.4) fun(s_2:Sht)=>(∀ M:Mem,0+4≤4)∧c1C (eI (atS s_1 (gK c.7 (Int.toNat (gP s.4 i).1)).1 (gK c.7 (Int.toNat (gP s.4 i).1)).2 (gP s.4 i).2.1)) fun(a:Nat)=>c1C (eI (atS s_2 (gK c.7 (Int.toNat (gP s.4 i).2.2.1)).1 (gK c.7 (Int.toNat (gP s.4 i).2.2.1)).2 (gP s.4 i).2.2.2)) fun(a_1:Nat)=>bif !decide ((eI (fO so a))=(eI (fO so a_1))) then(∀ M:Mem,(m+1)*24≤140737488355328∧m+1≤140737488355328)∧K [.rnd [0,0,1,0,1,1,1,1,1,1,1,1,1,1,1] M,.blk 14,.at [1,1,1,1,1,1,1,1,1,1,1,1]] (St.mk [(27,.v (qA (IntKind.wrap .i64 ((↑i:Int)+(1:Int))))),(11,.o 0),(7,.p 1 0),(5,.p 2 0),(0,.v (qA so))] [.rowc 111 3 (m+1) (.app m (.fn (cQ os)) (.lit 3 [.v (qA 3),.v (qA (↑i:Int)),.v (qA 0)])),.cells [.x 3 [],.x 4 [],.x 5 [],.x 6 []] 42,.cells [.v (qA c.1),.v (qA c.2),.v (qA c.3),.x 7 [],.x 8 [],.x 9 [],.x 10 []] 27,.ext false (.s false 1 s.1.length (cT s.1)),.ext false (.s false 1 s.2.length (cT s.2)),.ext false (.s false 1 s.3.length (cT s.3)),.ext false (.s false 4 s.4.length (cP s.4)),.ext false (.s false 7 c.4.length (cN c.4)),.ext false (.s false 1 c.5.length (cI c.5)),.ext false (.s false 2 c.6.length (cL c.6)),.ext false (.s false 2 c.7.length (cK c.7))]) else K [.rnd [0,0,1,0,1,1,1,1,1,1,1,1,1,1,1] M,.blk 14,.at [1,1,1,1,1,1,1,1,1,1,1,1]] (St.mk [(27,.v (qA (IntKind.wrap .i64 ((↑i:Int)+(1:Int))))),(11,.o 0),(7,.p 1 0),(5,.p 2 0),(0,.v (qA so))] [.rowc 111 3 m (.fn (cQ os)),.cells [.x 3 [],.x 4 [],.x 5 [],.x 6 []] 42,.cells [.v (qA c.1),.v (qA c.2),.v (qA c.3),.x 7 [],.x 8 [],.x 9 [],.x 10 []] 27,.ext false (.s false 1 s.1.length (cT s.1)),.ext false (.s false 1 s.2.length (cT s.2)),.ext false (.s false 1 s.3.length (cT s.3)),.ext false (.s false 4 s.4.length (cP s.4)),.ext false (.s false 7 c.4.length (cN c.4)),.ext false (.s false 1 c.5.length (cI c.5)),.ext false (.s false 2 c.6.length (cL c.6)),.ext false (.s false 2 c.7.length (cK c.7))]))∧(∀ M:Mem,0+4≤4)∧(∀ M:Mem,(0:Int)≤(gP s.4 i).2.2.1∧(gP s.4 i).2.2.1<(↑c.7.length:Int))∧(∀ M:Mem,Int.toNat (gP s.4 i).2.2.1<List.length c.7)∧(∀ M:Mem,Int.toNat (gP s.4 i).2.2.1<List.length c.7)∧(∀ M:Mem,(0:Int)≤(gP s.4 i).2.2.1∧(gP s.4 i).2.2.1<(↑c.7.length:Int))∧(∀ M:Mem,Int.toNat (gP s.4 i).2.2.1<List.length c.7)∧(∀ M:Mem,Int.toNat (gP s.4 i).2.2.1<List.length c.7)∧lS s.1.length s.2.length s.3.length s.4.length (cT s.1) (cT s.2) (cT s.3) (cP s.4) fun(s_2:Sht)=>(∀ M:Mem,0+4≤4)∧c1C (eI (atS s_1 (gK c.7 (Int.toNat (gP s.4 i).1)).1 (gK c.7 (Int.toNat (gP s.4 i).1)).2 (gP s.4 i).2.1)) fun(a:Nat)=>c1C (eI (atS s_2 (gK c.7 (Int.toNat (gP s.4 i).2.2.1)).1 (gK c.7 (Int.toNat (gP s.4 i).2.2.1)).2 (gP s.4 i).2.2.2)) fun(a_1:Nat)=>bif !decide ((eI (fO so a))=(eI (fO so a_1))) then(∀ M:Mem,(m+1)*24≤140737488355328∧m+1≤140737488355328)∧K [.rnd [0,0,1,0,1,1,1,1,1,1,1,1,1,1,1] M,.blk 14,.at [1,1,1,1,1,1,1,1,1,1,1,1]] (St.mk [(27,.v (qA (IntKind.wrap .i64 ((↑i:Int)+(1:Int))))),(11,.o 0),(7,.p 1 0),(5,.p 2 0),(0,.v (qA so))] [.rowc 111 3 (m+1) (.app m (.fn (cQ os)) (.lit 3 [.v (qA 3),.v (qA (↑i:Int)),.v (qA 0)])),.cells [.x 3 [],.x 4 [],.x 5 [],.x 6 []] 42,.cells [.v (qA c.1),.v (qA c.2),.v (qA c.3),.x 7 [],.x 8 [],.x 9 [],.x 10 []] 27,.ext false (.s false 1 s.1.length (cT s.1)),.ext false (.s false 1 s.2.length (cT s.2)),.ext false (.s false 1 s.3.length (cT s.3)),.ext false (.s false 4 s.4.length (cP s.4)),.ext false (.s false 7 c.4.length (cN c.4)),.ext false (.s false 1 c.5.length (cI c.5)),.ext false (.s false 2 c.6.length (cL c.6)),.ext false (.s false 2 c.7.length (cK c.7))]) else K [.rnd [0,0,1,0,1,1,1,1,1,1,1,1,1,1,1] M,.blk 14,.at [1,1,1,1,1,1,1,1,1,1,1,1]] (St.mk [(27,.v (qA (IntKind.wrap .i64 ((↑i:Int)+(1:Int))))),(11,.o 0),(7,.p 1 0),(5,.p 2 0),(0,.v (qA so))] [.rowc 111 3 m (.fn (cQ os)),.cells [.x 3 [],.x 4 [],.x 5 [],.x 6 []] 42,.cells [.v (qA c.1),.v (qA c.2),.v (qA c.3),.x 7 [],.x 8 [],.x 9 [],.x 10 []] 27,.ext false (.s false 1 s.1.length (cT s.1)),.ext false (.s false 1 s.2.length (cT s.2)),.ext false (.s false 1 s.3.length (cT s.3)),.ext false (.s false 4 s.4.length (cP s.4)),.ext false (.s false 7 c.4.length (cN c.4)),.ext false (.s false 1 c.5.length (cI c.5)),.ext false (.s false 2 c.6.length (cL c.6)),.ext false (.s false 2 c.7.length (cK c.7))]))∧(∀ M:Mem,(0:Int)≤(↑i:Int)∧(↑i:Int)<(↑s.4.length:Int))∧(∀ M:Mem,i<List.length s.4)∧(∀ M:Mem,0+4≤4)∧(∀ M:Mem,(0:Int)≤(gP s.4 i).1∧(gP s.4 i).1<(↑c.7.length:Int))∧(∀ M:Mem,Int.toNat (gP s.4 i).1<List.length c.7)∧(∀ M:Mem,Int.toNat (gP s.4 i).1<List.length c.7)∧(∀ M:Mem,(0:Int)≤(gP s.4 i).1∧(gP s.4 i).1<(↑c.7.length:Int))∧(∀ M:Mem,Int.toNat (gP s.4 i).1<List.length c.7)∧(∀ M:Mem,Int.toNat (gP s.4 i).1<List.length c.7)∧lS s.1.length s.2.length s.3.length s.4.length (cT s.1) (cT s.2) (cT s.3) (cP s.4) fun(s_1:Sht)=>((∀ M:Mem,0+4≤4)∧(∀ M:Mem,(0:Int)≤(gP s.4 i).2.2.1∧(gP s.4 i).2.2.1<(↑c.7.length:Int))∧(∀ M:Mem,Int.toNat (gP s.4 i).2.2.1<List.length c.7)∧(∀ M:Mem,Int.toNat (gP s.4 i).2.2.1<List.length c.7)∧(∀ M:Mem,(0:Int)≤(gP s.4 i).2.2.1∧(gP s.4 i).2.2.1<(↑c.7.length:Int))∧(∀ M:Mem,Int.toNat (gP s.4 i).2.2.1<List.length c.7)∧(∀ M:Mem,Int.toNat (gP s.4 i).2.2.1<List.length c.7)∧lS s.1.length s.2.length s.3.length s.4.length (cT s.1) (cT s.2) (cT s.3) (cP s.4) fun(s_2:Sht)=>(∀ M:Mem,0+4≤4)∧c1C (eI (atS s_1 (gK c.7 (Int.toNat (gP s.4 i).1)).1 (gK c.7 (Int.toNat (gP s.4 i).1)).2 (gP s.4 i).2.1)) fun(a:Nat)=>c1C (eI (atS s_2 (gK c.7 (Int.toNat (gP s.4 i).2.2.1)).1 (gK c.7 (Int.toNat (gP s.4 i).2.2.1)).2 (gP s.4 i).2.2.2)) fun(a_1:Nat)=>bif !decide ((eI (fO so a))=(eI (fO so a_1))) then(∀ M:Mem,(m+1)*24≤140737488355328∧m+1≤140737488355328)∧K [.rnd [0,0,1,0,1,1,1,1,1,1,1,1,1,1,1] M,.blk 14,.at [1,1,1,1,1,1,1,1,1,1,1,1]] (St.mk [(27,.v (qA (IntKind.wrap .i64 ((↑i:Int)+(1:Int))))),(11,.o 0),(7,.p 1 0),(5,.p 2 0),(0,.v (qA so))] [.rowc 111 3 (m+1) (.app m (.fn (cQ os)) (.lit 3 [.v (qA 3),.v (qA (↑i:Int)),.v (qA 0)])),.cells [.x 3 [],.x 4 [],.x 5 [],.x 6 []] 42,.cells [.v (qA c.1),.v (qA c.2),.v (qA c.3),.x 7 [],.x 8 [],.x 9 [],.x 10 []] 27,.ext false (.s false 1 s.1.length (cT s.1)),.ext false (.s false 1 s.2.length (cT s.2)),.ext false (.s false 1 s.3.length (cT s.3)),.ext false (.s false 4 s.4.length (cP s.4)),.ext false (.s false 7 c.4.length (cN c.4)),.ext false (.s false 1 c.5.length (cI c.5)),.ext false (.s false 2 c.6.length (cL c.6)),.ext false (.s false 2 c.7.length (cK c.7))]) else K [.rnd [0,0,1,0,1,1,1,1,1,1,1,1,1,1,1] M,.blk 14,.at [1,1,1,1,1,1,1,1,1,1,1,1]] (St.mk [(27,.v (qA (IntKind.wrap .i64 ((↑i:Int)+(1:Int))))),(11,.o 0),(7,.p 1 0),(5,.p 2 0),(0,.v (qA so))] [.rowc 111 3 m (.fn (cQ os)),.cells [.x 3 [],.x 4 [],.x 5 [],.x 6 []] 42,.cells [.v (qA c.1),.v (qA c.2),.v (qA c.3),.x 7 [],.x 8 [],.x 9 [],.x 10 []] 27,.ext false (.s false 1 s.1.length (cT s.1)),.ext false (.s false 1 s.2.length (cT s.2)),.ext false (.s false 1 s.3.length (cT s.3)),.ext false (.s false 4 s.4.length (cP s.4)),.ext false (.s false 7 c.4.length (cN c.4)),.ext false (.s false 1 c.5.length (cI c.5)),.ext false (.s false 2 c.6.length (cL c.6)),.ext false (.s false 2 c.7.length (cK c.7))]))∧(∀ M:Mem,0+4≤4)∧(∀ M:Mem,(0:Int)≤(gP s.4 i).2.2.1∧(gP s.4 i).2.2.1<(↑c.7.length:Int))∧(∀ M:Mem,Int.toNat (gP s.4 i).2.2.1<List.length c.7)∧(∀ M:Mem,Int.toNat (gP s.4 i).2.2.1<List.length c.7)∧(∀ M:Mem,(0:Int)≤(gP s.4 i).2.2.1∧(gP s.4 i).2.2.1<(↑c.7.length:Int))∧(∀ M:Mem,Int.toNat (gP s.4 i).2.2.1<List.length c.7)∧(∀ M:Mem,Int.toNat (gP s.4 i).2.2.1<List.length c.7)∧lS s.1.length s.2.length s.3.length s.4.length (cT s.1) (cT s.2) (cT s.3) (cP s.4) fun(s_2:Sht)=>(∀ M:Mem,0+4≤4)∧c1C (eI (atS s_1 (gK c.7 (Int.toNat (gP s.4 i).1)).1 (gK c.7 (Int.toNat (gP s.4 i).1)).2 (gP s.4 i).2.1)) fun(a:Nat)=>c1C (eI (atS s_2 (gK c.7 (Int.toNat (gP s.4 i).2.2.1)).1 (gK c.7 (Int.toNat (gP s.4 i).2.2.1)).2 (gP s.4 i).2.2.2)) fun(a_1:Nat)=>bif !decide ((eI (fO so a))=(eI (fO so a_1))) then(∀ M:Mem,(m+1)*24≤140737488355328∧m+1≤140737488355328)∧K [.rnd [0,0,1,0,1,1,1,1,1,1,1,1,1,1,1] M,.blk 14,.at [1,1,1,1,1,1,1,1,1,1,1,1]] (St.mk [(27,.v (qA (IntKind.wrap .i64 ((↑i:Int)+(1:Int))))),(11,.o 0),(7,.p 1 0),(5,.p 2 0),(0,.v (qA so))] [.rowc 111 3 (m+1) (.app m (.fn (cQ os)) (.lit 3 [.v (qA 3),.v (qA (↑i:Int)),.v (qA 0)])),.cells [.x 3 [],.x 4 [],.x 5 [],.x 6 []] 42,.cells [.v (qA c.1),.v (qA c.2),.v (qA c.3),.x 7 [],.x 8 [],.x 9 [],.x 10 []] 27,.ext false (.s false 1 s.1.length (cT s.1)),.ext false (.s false 1 s.2.length (cT s.2)),.ext false (.s false 1 s.3.length (cT s.3)),.ext false (.s false 4 s.4.length (cP s.4)),.ext false (.s false 7 c.4.length (cN c.4)),.ext false (.s false 1 c.5.length (cI c.5)),.ext false (.s false 2 c.6.length (cL c.6)),.ext false (.s false 2 c.7.length (cK c.7))]) else K [.rnd [0,0,1,0,1,1,1,1,1,1,1,1,1,1,1] M,.blk 14,.at [1,1,1,1,1,1,1,1,1,1,1,1]] (St.mk [(27,.v (qA (IntKind.wrap .i64 ((↑i:Int)+(1:Int))))),(11,.o 0),(7,.p 1 0),(5,.p 2 0),(0,.v (qA so))] [.rowc 111 3 m (.fn (cQ os)),.cells [.x 3 [],.x 4 [],.x 5 [],.x 6 []] 42,.cells [.v (qA c.1),.v (qA c.2),.v (qA c.3),.x 7 [],.x 8 [],.x 9 [],.x 10 []] 27,.ext false (.s false 1 s.1.length (cT s.1)),.ext false (.s false 1 s.2.length (cT s.2)),.ext false (.s false 1 s.3.length (cT s.3)),.ext false (.s false 4 s.4.length (cP s.4)),.ext false (.s false 7 c.4.length (cN c.4)),.ext false (.s false 1 c.5.length (cI c.5)),.ext false (.s false 2 c.6.length (cL c.6)),.ext false (.s false 2 c.7.length (cK c.7))]) else R (.tup [.o 0,.v (qA 0)]) [.rowc 111 3 m (.fn (cQ os))]):=by kernel_rfl
noncomputable def rT0(c:Cir)(s:Sht)(so k:Int)(rows:List (List Nat))(i:Nat):St:=(St.mk [(15,SV.v (qA (i:Int))),(14,SV.o 0),(13,SV.v (qA (usN k))),(12,SV.p 1 0),(11,SV.o 2),(7,SV.p 3 0),(5,SV.p 4 0),(2,SV.v (qA k)),(0,SV.v (qA so))] [HO.rowc 67 1 rows.length (Ct.fn (cT rows)),HO.cells [SV.v (qC (0:Int)),SV.v (qC (0:Int)),SV.v (qC (0:Int)),SV.v (qC (0:Int))] 53,HO.rowc 111 3 0 (Ct.lit 3 []),HO.cells [SV.x 5 [],SV.x 6 [],SV.x 7 [],SV.x 8 []] 42,HO.cells [SV.v (qA c.1),SV.v (qA c.2),SV.v (qA c.3),SV.x 9 [],SV.x 10 [],SV.x 11 [],SV.x 12 []] 27,HO.ext false (qG.s false 1 (List.length s.1) (cT s.1)),HO.ext false (qG.s false 1 (List.length s.2) (cT s.2)),HO.ext false (qG.s false 1 (List.length s.3) (cT s.3)),HO.ext false (qG.s false 4 (List.length s.4) (cP s.4)),HO.ext false (qG.s false 7 (List.length c.4) (cN c.4)),HO.ext false (qG.s false 1 (List.length c.5) (cI c.5)),HO.ext false (qG.s false 2 (List.length c.6) (cL c.6)),HO.ext false (qG.s false 2 (List.length c.7) (cK c.7))])
noncomputable def rT1(c:Cir)(s:Sht)(so k:Int)(rows:List (List Nat))(os:List (Int×Int×Int))(i:Nat):St:=(St.mk [(16,SV.v (qA (i:Int))),(14,SV.x 0 []),(13,SV.v (qA (usN k))),(12,SV.p 1 0),(11,SV.o 2),(7,SV.p 3 0),(5,SV.p 4 0),(2,SV.v (qA k)),(0,SV.v (qA so))] [HO.ext false (qG.s false 1 rows.length (cT rows)),HO.cells [SV.v (qC (0:Int)),SV.v (qC (0:Int)),SV.v (qC (0:Int)),SV.v (qC (0:Int))] 53,HO.rowc 111 3 os.length (Ct.fn (cQ os)),HO.cells [SV.x 5 [],SV.x 6 [],SV.x 7 [],SV.x 8 []] 42,HO.cells [SV.v (qA c.1),SV.v (qA c.2),SV.v (qA c.3),SV.x 9 [],SV.x 10 [],SV.x 11 [],SV.x 12 []] 27,HO.ext false (qG.s false 1 (List.length s.1) (cT s.1)),HO.ext false (qG.s false 1 (List.length s.2) (cT s.2)),HO.ext false (qG.s false 1 (List.length s.3) (cT s.3)),HO.ext false (qG.s false 4 (List.length s.4) (cP s.4)),HO.ext false (qG.s false 7 (List.length c.4) (cN c.4)),HO.ext false (qG.s false 1 (List.length c.5) (cI c.5)),HO.ext false (qG.s false 2 (List.length c.6) (cL c.6)),HO.ext false (qG.s false 2 (List.length c.7) (cK c.7))])
noncomputable def rT2(c:Cir)(s:Sht)(so k:Int)(rows:List (List Nat))(os:List (Int×Int×Int))(i:Nat)(r to:Int):St:=(St.mk [(19,SV.v (qA r)),(18,SV.v (qA to)),(16,SV.v (qA (↑i:Int))),(14,SV.x 0 []),(13,SV.v (qA (usN k))),(12,SV.p 1 0),(11,SV.o 2),(7,SV.p 3 0),(5,SV.p 4 0),(2,SV.v (qA k)),(0,SV.v (qA so))] [HO.ext false (qG.s false 1 rows.length (cT rows)),HO.cells [SV.v (qC (0:Int)),SV.v (qC (0:Int)),SV.v (qC (0:Int)),SV.v (qC (0:Int))] 53,HO.rowc 111 3 os.length (Ct.fn (cQ os)),HO.cells [SV.x 5 [],SV.x 6 [],SV.x 7 [],SV.x 8 []] 42,HO.cells [SV.v (qA c.1),SV.v (qA c.2),SV.v (qA c.3),SV.x 9 [],SV.x 10 [],SV.x 11 [],SV.x 12 []] 27,HO.ext false (qG.s false 1 (List.length s.1) (cT s.1)),HO.ext false (qG.s false 1 (List.length s.2) (cT s.2)),HO.ext false (qG.s false 1 (List.length s.3) (cT s.3)),HO.ext false (qG.s false 4 (List.length s.4) (cP s.4)),HO.ext false (qG.s false 7 (List.length c.4) (cN c.4)),HO.ext false (qG.s false 1 (List.length c.5) (cI c.5)),HO.ext false (qG.s false 2 (List.length c.6) (cL c.6)),HO.ext false (qG.s false 2 (List.length c.7) (cK c.7))])
noncomputable def rT3(c:Cir)(s:Sht)(so k:Int)(rows:List (List Nat))(os:List (Int×Int×Int))(i:Nat):St:=(St.mk [(20,SV.v (qA (i:Int))),(14,SV.x 0 []),(13,SV.v (qA (usN k))),(11,SV.o 1),(7,SV.p 2 0),(5,SV.p 3 0),(0,SV.v (qA so))] [HO.ext false (qG.s false 1 rows.length (cT rows)),HO.rowc 111 3 os.length (Ct.fn (cQ os)),HO.cells [SV.x 4 [],SV.x 5 [],SV.x 6 [],SV.x 7 []] 42,HO.cells [SV.v (qA c.1),SV.v (qA c.2),SV.v (qA c.3),SV.x 8 [],SV.x 9 [],SV.x 10 [],SV.x 11 []] 27,HO.ext false (qG.s false 1 (List.length s.1) (cT s.1)),HO.ext false (qG.s false 1 (List.length s.2) (cT s.2)),HO.ext false (qG.s false 1 (List.length s.3) (cT s.3)),HO.ext false (qG.s false 4 (List.length s.4) (cP s.4)),HO.ext false (qG.s false 7 (List.length c.4) (cN c.4)),HO.ext false (qG.s false 1 (List.length c.5) (cI c.5)),HO.ext false (qG.s false 2 (List.length c.6) (cL c.6)),HO.ext false (qG.s false 2 (List.length c.7) (cK c.7))])
noncomputable def rT4(c:Cir)(s:Sht)(so k:Int)(rows:List (List Nat))(os:List (Int×Int×Int))(i r:Nat):St:=(St.mk [(22,SV.v (qA (r:Int))),(21,SV.p 0 0),(20,SV.v (qA (↑i:Int))),(14,SV.x 1 []),(13,SV.v (qA (usN k))),(11,SV.o 2),(7,SV.p 3 0),(5,SV.p 4 0),(0,SV.v (qA so))] [HO.cells [SV.x 5 [(2,i,0)],SV.x 5 [(2,i,1)]] 76,HO.ext false (qG.s false 1 rows.length (cT rows)),HO.rowc 111 3 os.length (Ct.fn (cQ os)),HO.cells [SV.x 6 [],SV.x 7 [],SV.x 8 [],SV.x 9 []] 42,HO.cells [SV.v (qA c.1),SV.v (qA c.2),SV.v (qA c.3),SV.x 10 [],SV.x 11 [],SV.x 5 [],SV.x 12 []] 27,HO.ext false (qG.s false 2 (List.length c.6) (cL c.6)),HO.ext false (qG.s false 1 (List.length s.1) (cT s.1)),HO.ext false (qG.s false 1 (List.length s.2) (cT s.2)),HO.ext false (qG.s false 1 (List.length s.3) (cT s.3)),HO.ext false (qG.s false 4 (List.length s.4) (cP s.4)),HO.ext false (qG.s false 7 (List.length c.4) (cN c.4)),HO.ext false (qG.s false 1 (List.length c.5) (cI c.5)),HO.ext false (qG.s false 2 (List.length c.7) (cK c.7))])
noncomputable def rT5(c:Cir)(s:Sht)(so k:Int)(rows:List (List Nat))(os:List (Int×Int×Int))(fd:Bool)(i r t:Nat):St:=(St.mk [(24,SV.v (qA (t:Int))),(23,SV.v (Value.bool fd)),(22,SV.v (qA (↑r:Int))),(21,SV.p 0 0),(20,SV.v (qA (↑i:Int))),(14,SV.x 1 []),(13,SV.v (qA (usN k))),(11,SV.o 2),(7,SV.p 3 0),(5,SV.p 4 0),(0,SV.v (qA so))] [HO.cells [SV.x 5 [(2,i,0)],SV.x 5 [(2,i,1)]] 76,HO.ext false (qG.s false 1 rows.length (cT rows)),HO.rowc 111 3 os.length (Ct.fn (cQ os)),HO.cells [SV.x 6 [],SV.x 7 [],SV.x 8 [],SV.x 9 []] 42,HO.cells [SV.v (qA c.1),SV.v (qA c.2),SV.v (qA c.3),SV.x 10 [],SV.x 11 [],SV.x 5 [],SV.x 12 []] 27,HO.ext false (qG.s false 2 (List.length c.6) (cL c.6)),HO.ext false (qG.s false 1 (List.length s.1) (cT s.1)),HO.ext false (qG.s false 1 (List.length s.2) (cT s.2)),HO.ext false (qG.s false 1 (List.length s.3) (cT s.3)),HO.ext false (qG.s false 4 (List.length s.4) (cP s.4)),HO.ext false (qG.s false 7 (List.length c.4) (cN c.4)),HO.ext false (qG.s false 1 (List.length c.5) (cI c.5)),HO.ext false (qG.s false 2 (List.length c.7) (cK c.7))])
noncomputable def rT6(c:Cir)(s:Sht)(so k:Int)(rows:List (List Nat))(os:List (Int×Int×Int))(fd sm:Bool)(i r t j:Nat):St:=(St.mk [(26,SV.v (qA (j:Int))),(25,SV.v (Value.bool sm)),(24,SV.v (qA (↑t:Int))),(23,SV.v (Value.bool fd)),(22,SV.v (qA (↑r:Int))),(21,SV.p 0 0),(20,SV.v (qA (↑i:Int))),(14,SV.x 1 []),(13,SV.v (qA (usN k))),(11,SV.o 2),(7,SV.p 3 0),(5,SV.p 4 0),(0,SV.v (qA so))] [HO.cells [SV.x 5 [(2,i,0)],SV.x 5 [(2,i,1)]] 76,HO.ext false (qG.s false 1 rows.length (cT rows)),HO.rowc 111 3 os.length (Ct.fn (cQ os)),HO.cells [SV.x 6 [],SV.x 7 [],SV.x 8 [],SV.x 9 []] 42,HO.cells [SV.v (qA c.1),SV.v (qA c.2),SV.v (qA c.3),SV.x 10 [],SV.x 11 [],SV.x 5 [],SV.x 12 []] 27,HO.ext false (qG.s false 2 (List.length c.6) (cL c.6)),HO.ext false (qG.s false 1 (List.length s.1) (cT s.1)),HO.ext false (qG.s false 1 (List.length s.2) (cT s.2)),HO.ext false (qG.s false 1 (List.length s.3) (cT s.3)),HO.ext false (qG.s false 4 (List.length s.4) (cP s.4)),HO.ext false (qG.s false 7 (List.length c.4) (cN c.4)),HO.ext false (qG.s false 1 (List.length c.5) (cI c.5)),HO.ext false (qG.s false 2 (List.length c.7) (cK c.7))])
noncomputable def rT7(c:Cir)(s:Sht)(so k:Int)(os:List (Int×Int×Int))(i:Nat):St:=(St.mk [(27,SV.v (qA (i:Int))),(11,SV.o 0),(7,SV.p 1 0),(5,SV.p 2 0),(0,SV.v (qA so))] [HO.rowc 111 3 os.length (Ct.fn (cQ os)),HO.cells [SV.x 3 [],SV.x 4 [],SV.x 5 [],SV.x 6 []] 42,HO.cells [SV.v (qA c.1),SV.v (qA c.2),SV.v (qA c.3),SV.x 7 [],SV.x 8 [],SV.x 9 [],SV.x 10 []] 27,HO.ext false (qG.s false 1 (List.length s.1) (cT s.1)),HO.ext false (qG.s false 1 (List.length s.2) (cT s.2)),HO.ext false (qG.s false 1 (List.length s.3) (cT s.3)),HO.ext false (qG.s false 4 (List.length s.4) (cP s.4)),HO.ext false (qG.s false 7 (List.length c.4) (cN c.4)),HO.ext false (qG.s false 1 (List.length c.5) (cI c.5)),HO.ext false (qG.s false 2 (List.length c.6) (cL c.6)),HO.ext false (qG.s false 2 (List.length c.7) (cK c.7))])
theorem qMd(c:Cir)(hc:c.ok)(s:Sht)(hs:s.ok)(so k:Int)(fin:List (Int×Int×Int))(hf:fin.length≤100000)(Q:SV→List HO→Prop)(hq:Q (.tup [.o 0,.v (qA 0)]) [.rowc 111 3 fin.length (.fn (cQ fin))])(hcp:∀ x∈s.cp,(0≤x.1∧x.1<(c.eqs.length:Int))∧(0≤x.2.2.1∧x.2.2.1<(c.eqs.length:Int)))(hp:s.cp.length≤256):∀(d i:Nat) (os:List (Int×Int×Int)),i+d=s.cp.length→fin=os++qFh c s so (i:Int) (s.cp.drop i) →
  FOk Tryz.prog Tryz.f26 Q (.rnd [0,0,1,0,1,1,1,1,1,1,1,1,1,1,1] (d+1)::[.blk 14,.at [1,1,1,1,1,1,1,1,1,1,1,1]]) (rT7 c s so k os i)
 | 0,i,os,hd,he=>by
  refine FOk.rnd (qD hm 60 ((ra7 c s so k [] 0 os os.length i 0 _ _).mpr ⟨?_⟩))
  rw[qF,if_neg (by omega)]
  rw[show i=s.cp.length by omega,List.drop_length,qFh,List.append_nil] at he
  rw[he] at hq
  exact hq
 | d+1,i,os,hd,he=>by
  have hi:i<s.cp.length:=by omega
  obtain⟨hx,hy⟩:=hcp _ (qWy hi)
  refine FOk.rnd (qD hm 60 ((ra7 c s so k [] 0 os os.length i (d+1) _ _).mpr ⟨?_⟩))
  rw[qF,if_pos (by omega),qL _ (by omega)]
  rw[qYs hi,qFh,show(i:Int)+1=((i+1:Nat):Int) by omega] at he
  have fin2:∀(X Y:Prop),((os.length+1≤100000)→fin=(os++[((3:Int),(i:Int),(0:Int))])++qFh c s so ((i+1:Nat):Int) (s.cp.drop (i+1))→X)→(fin=os++qFh c s so ((i+1:Nat):Int) (s.cp.drop (i+1))→Y)→(bif !decide (eI (fO so (atS s (gK c.eqs (gP s.cp i).1.toNat).1 (gK c.eqs (gP s.cp i).1.toNat).2 (gP s.cp i).2.1))=eI (fO so (atS s (gK c.eqs (gP s.cp i).2.2.1.toNat).1 (gK c.eqs (gP s.cp i).2.2.1.toNat).2 (gP s.cp i).2.2.2))) then X else Y):=by
   intro X Y hX hY
   rw[qIq,qIq,qN]
   refine qM (fun h=>hY ?_) (fun h=>?_)
   ·rw[qDp,qDp,h,cond_true,List.nil_append] at he
    exact he
   ·rw[qDp,qDp,h,cond_false,← List.append_assoc] at he
    refine hX ?_ he
    have:=congrArg List.length he
    simp only[List.length_append,List.length_cons,List.length_nil] at this
    omega
  have n1:=qMd c hc s hs so k fin hf Q hq hcp hp d (i+1) os (by omega)
  have n2:=qMd c hc s hs so k fin hf Q hq hcp hp d (i+1) (os++[((3:Int),(i:Int),(0:Int))]) (by omega)
  repeat' (first | refine And.intro (fun _=>by omega) ?_ | refine And.intro ?_ ?_ | refine qIy s hs ?_ | refine jP _ (qRe hs _ _ _) ?_)
  all_goals exact fin2 _ _ (fun hlen h=>aI (FOk.cv (n2 h) ⟨⟨rfl,rfl,(by rw[List.length_append]; rfl),qBs ((3:Int),(i:Int),(0:Int)) rfl⟩,HE.refl _,HE.refl _,HE.refl _,HE.refl _,HE.refl _,HE.refl _,HE.refl _,HE.refl _,HE.refl _,HE.refl _,trivial⟩)) n1
theorem qTu(c:Cir)(hc:c.ok)(s:Sht)(hs:s.ok)(so k:Int)(fin:List (Int×Int×Int))(hf:fin.length≤100000)(Q:SV→List HO→Prop)(hq:Q (.tup [.o 0,.v (qA 0)]) [.rowc 111 3 fin.length (.fn (cQ fin))])(rows:List (List Nat))(hr:rows.length≤4000)(hru:(rows.length:Int)=usN k)(hrl:∀ r∈rows,r.length=c.nodes.length)(i:Nat)(ins tabs:List Int)(hL:gL c.looks i=(ins,tabs))(hi:i<c.looks.length)(hi4:i≤100000)(h4:ins.length≤4)(hl:tabs.length=ins.length)(hg1:∀ g∈ins,0≤g∧g<(c.nodes.length:Int))(hg2:∀ g∈tabs,0≤g∧g<(c.nodes.length:Int))(os:List (Int×Int×Int))(fd:Bool)(r t:Nat)(hr2:r<rows.length)(ht2:t<rows.length)(M2 M3 M4:Nat)(next:FOk Tryz.prog Tryz.f26 Q (.rnd [0,0,1,0,1,0,0,1,0,0,1,1,0,0,1,0,0,1,0,1,1,1,1,1,1,1,1,1,1] M4::[.blk 10,.at [1,1,0,0,1,0,0,1,1,0,0,1,0,0,1,0,1,1,1,1,1,1,1,1,1,1],.blk 9,.at [1,1,0,0,1,1,0,0,1,0,0,1,0,1,1,1,1,1,1,1,1,1,1],.rnd [0,0,1,1,0,0,1,0,0,1,0,1,1,1,1,1,1,1,1,1,1] M3,.blk 8,.blk 7,.at [1,1,0,0,1,0,1,1,1,1,1,1,1,1,1,1],.rnd [0,0,1,0,1,1,1,1,1,1,1,1,1,1] M2,.blk 6,.at [1,1,1,1,1,1,1,1,1,1,1]]) (rT5 c s so k rows os (fd||qQq (gT rows r) (gT rows t) ins tabs ins.length) i r (t+1))):∀(d j:Nat),j+d=ins.length →
  FOk Tryz.prog Tryz.f26 Q (.rnd [0,0,1,0,1,0,0,1,0,0,1,0,1,0,0,1,0,0,1,1,0,0,1,0,0,1,0,1,1,1,1,1,1,1,1,1,1] (d+1)::[.blk 12,.at [1,1,0,0,1,0,0,1,0,1,0,0,1,0,0,1,1,0,0,1,0,0,1,0,1,1,1,1,1,1,1,1,1,1],.blk 11,.at [1,1,0,0,1,0,1,0,0,1,0,0,1,1,0,0,1,0,0,1,0,1,1,1,1,1,1,1,1,1,1],.rnd [0,0,1,0,1,0,0,1,0,0,1,1,0,0,1,0,0,1,0,1,1,1,1,1,1,1,1,1,1] M4,.blk 10,.at [1,1,0,0,1,0,0,1,1,0,0,1,0,0,1,0,1,1,1,1,1,1,1,1,1,1],.blk 9,.at [1,1,0,0,1,1,0,0,1,0,0,1,0,1,1,1,1,1,1,1,1,1,1],.rnd [0,0,1,1,0,0,1,0,0,1,0,1,1,1,1,1,1,1,1,1,1] M3,.blk 8,.blk 7,.at [1,1,0,0,1,0,1,1,1,1,1,1,1,1,1,1],.rnd [0,0,1,0,1,1,1,1,1,1,1,1,1,1] M2,.blk 6,.at [1,1,1,1,1,1,1,1,1,1,1]]) (rT6 c s so k rows os fd (qQq (gT rows r) (gT rows t) ins tabs j) i r t j)
 | 0,j,hd=>by
  have e1:(gL c.looks i).1=ins:=by rw[hL]
  refine FOk.rnd (qD hm 60 ((ra6 c s so k rows rows.length os os.length (usN k) fd _ i r t j M2 M3 M4 0 _ _).mpr ⟨And.intro (fun _=>hi) ?_⟩))
  rw[e1,qF,if_neg (by omega),qL t (by omega)]
  rw[show j=ins.length by omega]
  refine qM (fun h=>?_) (fun h=>?_)
  ·rw[h,Bool.true_or] at next; exact next
  ·rw[h,Bool.false_or] at next; exact next
 | d+1,j,hd=>by
  have e1:(gL c.looks i).1=ins:=by rw[hL]
  have e2:(gL c.looks i).2=tabs:=by rw[hL]
  have hj:j<ins.length:=by omega
  have g1:=hg1 _ (xI hj)
  have g2:=hg2 _ (xI (show j<tabs.length by omega))
  have l1:=hrl _ (qBd hr2)
  have l2:=hrl _ (qBd ht2)
  have ih:=qTu c hc s hs so k fin hf Q hq rows hr hru hrl i ins tabs hL hi hi4 h4 hl hg1 hg2 os fd r t hr2 ht2 M2 M3 M4 next d (j+1) (by omega)
  rw[zBe] at ih
  refine FOk.rnd (qD hm 60 ((ra6 c s so k rows rows.length os os.length (usN k) fd _ i r t j M2 M3 M4 (d+1) _ _).mpr ⟨And.intro (fun _=>hi) ?_⟩))
  rw[e1,e2,qF,if_pos (by omega),qL j (by omega)]
  refine qM (fun h=>?_) (fun h=>?_)
  ·rw[h,Bool.true_and] at ih
   repeat' (refine And.intro (fun _=>by omega) ?_)
   exact ih
  ·rw[h,Bool.false_and] at ih; exact ih
theorem qVb(c:Cir)(hc:c.ok)(s:Sht)(hs:s.ok)(so k:Int)(fin:List (Int×Int×Int))(hf:fin.length≤100000)(Q:SV→List HO→Prop)(hq:Q (.tup [.o 0,.v (qA 0)]) [.rowc 111 3 fin.length (.fn (cQ fin))])(rows:List (List Nat))(hr:rows.length≤4000)(hru:(rows.length:Int)=usN k)(hrl:∀ r∈rows,r.length=c.nodes.length)(i:Nat)(ins tabs:List Int)(hL:gL c.looks i=(ins,tabs))(hi:i<c.looks.length)(hi4:i≤100000)(h4:ins.length≤4)(hl:tabs.length=ins.length)(hg1:∀ g∈ins,0≤g∧g<(c.nodes.length:Int))(hg2:∀ g∈tabs,0≤g∧g<(c.nodes.length:Int))(rest:List (Int×Int×Int))(os:List (Int×Int×Int))(r:Nat)(hr2:r<rows.length)(M2 M3:Nat)(next:∀ os2,fin=os2++rest→FOk Tryz.prog Tryz.f26 Q (.rnd [0,0,1,1,0,0,1,0,0,1,0,1,1,1,1,1,1,1,1,1,1] M3::[.blk 8,.blk 7,.at [1,1,0,0,1,0,1,1,1,1,1,1,1,1,1,1],.rnd [0,0,1,0,1,1,1,1,1,1,1,1,1,1] M2,.blk 6,.at [1,1,1,1,1,1,1,1,1,1,1]]) (rT4 c s so k rows os2 i (r+1)))(he:fin=os++((bif qRj (gT rows r) rows ins tabs rows.length then[] else[((2:Int),(i:Int),(r:Int))])++rest)):∀(d t:Nat),t+d=rows.length →
  FOk Tryz.prog Tryz.f26 Q (.rnd [0,0,1,0,1,0,0,1,0,0,1,1,0,0,1,0,0,1,0,1,1,1,1,1,1,1,1,1,1] (d+1)::[.blk 10,.at [1,1,0,0,1,0,0,1,1,0,0,1,0,0,1,0,1,1,1,1,1,1,1,1,1,1],.blk 9,.at [1,1,0,0,1,1,0,0,1,0,0,1,0,1,1,1,1,1,1,1,1,1,1],.rnd [0,0,1,1,0,0,1,0,0,1,0,1,1,1,1,1,1,1,1,1,1] M3,.blk 8,.blk 7,.at [1,1,0,0,1,0,1,1,1,1,1,1,1,1,1,1],.rnd [0,0,1,0,1,1,1,1,1,1,1,1,1,1] M2,.blk 6,.at [1,1,1,1,1,1,1,1,1,1,1]]) (rT5 c s so k rows os (qRj (gT rows r) rows ins tabs t) i r t)
 | 0,t,hd=>by
  refine FOk.rnd (qD hm 60 ((ra5 c s so k rows rows.length os os.length (usN k) _ i r t M2 M3 0 _ _).mpr ⟨?_⟩))
  rw[qF,if_neg (by omega),qL r (by omega),qN]
  rw[show t=rows.length by omega]
  refine qM (fun h=>?_) (fun h=>?_)
  ·rw[h,cond_true,List.nil_append] at he
   exact next os he
  ·rw[h,cond_false,← List.append_assoc] at he
   have hlen:os.length+1≤100000:=by
    have:=congrArg List.length he
    simp only[List.length_append,List.length_cons,List.length_nil] at this
    omega
   exact aI (FOk.cv (next (os++[((2:Int),(i:Int),(r:Int))]) he) ⟨HE.refl _,HE.refl _,⟨rfl,rfl,(by rw[List.length_append]; rfl),qBs ((2:Int),(i:Int),(r:Int)) rfl⟩,HE.refl _,HE.refl _,HE.refl _,HE.refl _,HE.refl _,HE.refl _,HE.refl _,HE.refl _,HE.refl _,HE.refl _,trivial⟩)
 | d+1,t,hd=>by
  have ih:=qVb c hc s hs so k fin hf Q hq rows hr hru hrl i ins tabs hL hi hi4 h4 hl hg1 hg2 rest os r hr2 M2 M3 next he d (t+1) (by omega)
  rw[zAs] at ih
  refine FOk.rnd (qD hm 60 ((ra5 c s so k rows rows.length os os.length (usN k) _ i r t M2 M3 (d+1) _ _).mpr ⟨?_⟩))
  rw[qF,if_pos (by omega)]
  exact FOk.loop (ins.length+1) (by kernel_rfl) (qTu c hc s hs so k fin hf Q hq rows hr hru hrl i ins tabs hL hi hi4 h4 hl hg1 hg2 os _ r t hr2 (by omega) M2 M3 (d+1) ih ins.length 0 (by omega))
theorem qUz(c:Cir)(hc:c.ok)(s:Sht)(hs:s.ok)(so k:Int)(fin:List (Int×Int×Int))(hf:fin.length≤100000)(Q:SV→List HO→Prop)(hq:Q (.tup [.o 0,.v (qA 0)]) [.rowc 111 3 fin.length (.fn (cQ fin))])(rows:List (List Nat))(hr:rows.length≤4000)(hru:(rows.length:Int)=usN k)(hrl:∀ r∈rows,r.length=c.nodes.length)(i:Nat)(ins tabs:List Int)(hL:gL c.looks i=(ins,tabs))(hi:i<c.looks.length)(hi4:i≤100000)(h4:ins.length≤4)(hl:tabs.length=ins.length)(hg1:∀ g∈ins,0≤g∧g<(c.nodes.length:Int))(hg2:∀ g∈tabs,0≤g∧g<(c.nodes.length:Int))(rest:List (Int×Int×Int))(M2:Nat)(next:∀ os2,fin=os2++rest→FOk Tryz.prog Tryz.f26 Q (.rnd [0,0,1,0,1,1,1,1,1,1,1,1,1,1] M2::[.blk 6,.at [1,1,1,1,1,1,1,1,1,1,1]]) (rT3 c s so k rows os2 (i+1))):∀(d r:Nat) (os:List (Int×Int×Int)),r+d=rows.length→fin=os++(lkR rows ins tabs (i:Int) d r++rest) →
  FOk Tryz.prog Tryz.f26 Q (.rnd [0,0,1,1,0,0,1,0,0,1,0,1,1,1,1,1,1,1,1,1,1] (d+1)::[.blk 8,.blk 7,.at [1,1,0,0,1,0,1,1,1,1,1,1,1,1,1,1],.rnd [0,0,1,0,1,1,1,1,1,1,1,1,1,1] M2,.blk 6,.at [1,1,1,1,1,1,1,1,1,1,1]]) (rT4 c s so k rows os i r)
 | 0,r,os,hd,he=>by
  refine FOk.rnd (qD hm 60 ((ra4 c s so k rows rows.length os os.length (usN k) i r M2 0 _ _).mpr ⟨?_⟩))
  rw[qF,if_neg (by omega),qL i (by omega)]
  rw[lkR,List.nil_append] at he
  exact next os he
 | d+1,r,os,hd,he=>by
  rw[lkR,List.append_assoc] at he
  refine FOk.rnd (qD hm 60 ((ra4 c s so k rows rows.length os os.length (usN k) i r M2 (d+1) _ _).mpr ⟨?_⟩))
  rw[qF,if_pos (by omega)]
  exact FOk.loop (rows.length+1) (by kernel_rfl) (qVb c hc s hs so k fin hf Q hq rows hr hru hrl i ins tabs hL hi hi4 h4 hl hg1 hg2 _ os r (by omega) M2 (d+1) (fun os2 he2=>qUz c hc s hs so k fin hf Q hq rows hr hru hrl i ins tabs hL hi hi4 h4 hl hg1 hg2 rest M2 next d (r+1) os2 (by omega) he2) he rows.length 0 (by omega))
theorem qTw(c:Cir)(hc:c.ok)(s:Sht)(hs:s.ok)(so k:Int)(fin:List (Int×Int×Int))(hf:fin.length≤100000)(Q:SV→List HO→Prop)(hq:Q (.tup [.o 0,.v (qA 0)]) [.rowc 111 3 fin.length (.fn (cQ fin))])(hcp:∀ x∈s.cp,(0≤x.1∧x.1<(c.eqs.length:Int))∧(0≤x.2.2.1∧x.2.2.1<(c.eqs.length:Int)))(hp:s.cp.length≤256)(rows:List (List Nat))(hr:rows.length≤4000)(hru:(rows.length:Int)=usN k)(hrl:∀ r∈rows,r.length=c.nodes.length)(hlk:∀ l∈c.looks,l.1.length≤4∧l.2.length≤4∧(∀ g∈l.1,0≤g∧g<(c.nodes.length:Int))∧∀ g∈l.2,0≤g∧g<(c.nodes.length:Int))(hll:∀ l∈c.looks,l.2.length=l.1.length)(hln:c.looks.length≤4):∀(d i:Nat) (os:List (Int×Int×Int)),i+d=c.looks.length→fin=os++(wM rows (i:Int) (c.looks.drop i)++qFh c s so 0 s.cp) →
  FOk Tryz.prog Tryz.f26 Q (.rnd [0,0,1,0,1,1,1,1,1,1,1,1,1,1] (d+1)::[.blk 6,.at [1,1,1,1,1,1,1,1,1,1,1]]) (rT3 c s so k rows os i)
 | 0,i,os,hd,he=>by
  refine FOk.rnd (qD hm 60 ((ra3 c s so k rows rows.length os os.length (usN k) i 0 _ _).mpr ⟨?_⟩))
  rw[qF,if_neg (by omega)]
  rw[show i=c.looks.length by omega,List.drop_length,wM,List.nil_append] at he
  exact FOk.loop (s.cp.length+1) (by kernel_rfl) (qMd c hc s hs so k fin hf Q hq hcp hp s.cp.length 0 os (by omega) he)
 | d+1,i,os,hd,he=>by
  have hi:i<c.looks.length:=by omega
  obtain⟨l1,l2,g1,g2⟩:=hlk _ (wY hi)
  have l3:=hll _ (wY hi)
  rw[qZn hi,wM,show(i:Int)+1=((i+1:Nat):Int) by omega,List.append_assoc,zAr rows _ _ _ l1 l3] at he
  refine FOk.rnd (qD hm 60 ((ra3 c s so k rows rows.length os os.length (usN k) i (d+1) _ _).mpr ⟨?_⟩))
  rw[qF,if_pos (by omega)]
  refine aI (aI (aI (?_)))
  exact FOk.loop (rows.length+1) (by kernel_rfl) (qUz c hc s hs so k fin hf Q hq rows hr hru hrl i (gL c.looks i).1 (gL c.looks i).2 rfl hi (by omega) l1 l3 g1 g2 _ (d+1) (fun os2 he2=>qTw c hc s hs so k fin hf Q hq hcp hp rows hr hru hrl hlk hll hln d (i+1) os2 (by omega) he2) rows.length 0 os (by omega) he)
theorem qLb(c:Cir)(hc:c.ok)(s:Sht)(hs:s.ok)(so k:Int)(fin:List (Int×Int×Int))(hf:fin.length≤100000)(Q:SV→List HO→Prop)(hq:Q (.tup [.o 0,.v (qA 0)]) [.rowc 111 3 fin.length (.fn (cQ fin))])(rows:List (List Nat))(hr:rows.length≤4000)(hru:(rows.length:Int)=usN k)(hrl:∀ r∈rows,r.length=c.nodes.length)(i:Nat)(hi:i<c.gates.length)(hi2:i≤100000)(hg:∀ r∈rows,0≤gI c.gates i∧gI c.gates i<(r.length:Int))(rest:List (Int×Int×Int))(M2:Nat)(to:Int)(hto:to≤(rows.length:Int))(next:∀ os,fin=os++rest→FOk Tryz.prog Tryz.f26 Q (.rnd [0,0,1,0,1,1,1,1,1,1,1,1,1] M2::[.blk 2,.at [1,1,1,1,1,1,1,1,1,1]]) (rT1 c s so k rows os (i+1))):∀(d:Nat) (r:Int) (os:List (Int×Int×Int)),0≤r→(to-r).toNat=d→fin=os++(qBx rows (gI c.gates i) (i:Int) d r++rest) →
  FOk Tryz.prog Tryz.f26 Q (.rnd [0,0,1,1,0,0,1,0,0,1,0,1,1,1,1,1,1,1,1,1] (d+1)::[.blk 4,.blk 3,.at [1,1,0,0,1,0,1,1,1,1,1,1,1,1,1],.rnd [0,0,1,0,1,1,1,1,1,1,1,1,1] M2,.blk 2,.at [1,1,1,1,1,1,1,1,1,1]]) (rT2 c s so k rows os i r to)
 | 0,r,os,h0,hd,he=>by
  refine FOk.rnd (qD hm 60 ((ra2 c s so k rows rows.length os os.length (usN k) i M2 0 r to _ _).mpr ⟨?_⟩))
  rw[qF,if_neg (by omega),qL _ (by omega)]
  rw[qBx,List.nil_append] at he
  exact next os he
 | d+1,r,os,h0,hd,he=>by
  rw[qBx] at he
  have hgr:=hg _ (qBd (show r.toNat<rows.length by omega))
  refine FOk.rnd (qD hm 60 ((ra2 c s so k rows rows.length os os.length (usN k) i M2 (d+1) r to _ _).mpr ⟨?_⟩))
  rw[qF,if_pos (by omega),jB (r+1) (by omega)]
  refine aI (aI (aI (aI (aI (aI (aI (aI (?_))))))))
  rw[qN]
  refine qM (fun h=>?_) (fun h=>?_)
  ·rw[h,cond_true,List.nil_append] at he
   exact qLb c hc s hs so k fin hf Q hq rows hr hru hrl i hi hi2 hg rest M2 to hto next d (r+1) os (by omega) (by omega) he
  ·rw[h,cond_false,List.append_assoc,← List.append_assoc] at he
   have hlen:os.length+1≤100000:=by
    have:=congrArg List.length he
    simp only[List.length_append,List.length_cons,List.length_nil] at this
    omega
   exact aI (FOk.cv (qLb c hc s hs so k fin hf Q hq rows hr hru hrl i hi hi2 hg rest M2 to hto next d (r+1) (os++[((1:Int),(i:Int),r)]) (by omega) (by omega) he) ⟨HE.refl _,HE.refl _,⟨rfl,rfl,(by rw[List.length_append]; rfl),qBs ((1:Int),(i:Int),r) rfl⟩,HE.refl _,HE.refl _,HE.refl _,HE.refl _,HE.refl _,HE.refl _,HE.refl _,HE.refl _,HE.refl _,HE.refl _,trivial⟩)
theorem qTf(c:Cir)(hc:c.ok)(s:Sht)(hs:s.ok)(so k:Int)(fin:List (Int×Int×Int))(hf:fin.length≤100000)(Q:SV→List HO→Prop)(hq:Q (.tup [.o 0,.v (qA 0)]) [.rowc 111 3 fin.length (.fn (cQ fin))])(hcp:∀ x∈s.cp,(0≤x.1∧x.1<(c.eqs.length:Int))∧(0≤x.2.2.1∧x.2.2.1<(c.eqs.length:Int)))(hp:s.cp.length≤256)(rows:List (List Nat))(hr:rows.length≤4000)(hru:(rows.length:Int)=usN k)(hrl:∀ r∈rows,r.length=c.nodes.length)(hlk:∀ l∈c.looks,l.1.length≤4∧l.2.length≤4∧(∀ g∈l.1,0≤g∧g<(c.nodes.length:Int))∧∀ g∈l.2,0≤g∧g<(c.nodes.length:Int))(hll:∀ l∈c.looks,l.2.length=l.1.length)(hln:c.looks.length≤4)(h0:zY c=0)(hk5:k≤5):∀(d i:Nat) (os:List (Int×Int×Int)),i+d=c.gates.length→fin=os++(wD c k rows (i:Int) (c.gates.drop i)++(wM rows 0 c.looks++qFh c s so 0 s.cp)) →
  FOk Tryz.prog Tryz.f26 Q (.rnd [0,0,1,0,1,1,1,1,1,1,1,1,1] (d+1)::[.blk 2,.at [1,1,1,1,1,1,1,1,1,1]]) (rT1 c s so k rows os i)
 | 0,i,os,hd,he=>by
  refine FOk.rnd (qD hm 60 ((ra1 c s so k rows rows.length os os.length (usN k) i 0 _ _).mpr ⟨?_⟩))
  rw[qF,if_neg (by omega)]
  rw[show i=c.gates.length by omega,List.drop_length,wD,List.nil_append] at he
  exact FOk.loop (c.looks.length+1) (by kernel_rfl) (qTw c hc s hs so k fin hf Q hq hcp hp rows hr hru hrl hlk hll hln c.looks.length 0 os (by omega) he)
 | d+1,i,os,hd,he=>by
  have hi:i<c.gates.length:=by omega
  have hin:=qTb h0 _ (xI hi)
  have hl:=qCt h0
  have hb:=qKz (x:=gI c.gates i) h0 (show k≤10 by omega)
  rw[qKe hi,wD,show(i:Int)+1=((i+1:Nat):Int) by omega,List.append_assoc] at he
  refine FOk.rnd (qD hm 60 ((ra1 c s so k rows rows.length os os.length (usN k) i (d+1) _ _).mpr ⟨?_⟩))
  rw[qF,if_pos (by omega)]
  refine aI (aI (wS c hc ?_))
  exact FOk.loop (((jG c k (gI c.gates i)).2-(jG c k (gI c.gates i)).1).toNat+1) (by kernel_rfl) (qLb c hc s hs so k fin hf Q hq rows hr hru hrl i hi (by omega) (fun r hr2=>by rw[hrl r hr2]; exact hin) _ (d+1) _ (by omega) (fun os2 he2=>qTf c hc s hs so k fin hf Q hq hcp hp rows hr hru hrl hlk hll hln h0 hk5 d (i+1) os2 (by omega) he2) _ _ os hb.1 rfl he)
theorem zJv{k:Int}(h3:3≤k)(h5:k≤5):usN k<nOf k:=by
 rcases zGk h3 h5 with rfl | rfl | rfl <;> decide +kernel
theorem qTk(c:Cir)(hc:c.ok)(s:Sht)(hs:s.ok)(so k:Int)(fin:List (Int×Int×Int))(hf:fin.length≤100000)(Q:SV→List HO→Prop)(hq:Q (.tup [.o 0,.v (qA 0)]) [.rowc 111 3 fin.length (.fn (cQ fin))])(hcp:∀ x∈s.cp,(0≤x.1∧x.1<(c.eqs.length:Int))∧(0≤x.2.2.1∧x.2.2.1<(c.eqs.length:Int)))(hp:s.cp.length≤256)(h0:zY c=0)(hso:fE so=0)(hk3:3≤k)(hk5:k≤5)(he:fin=qJp c s so k):∀(d i:Nat) (rows:List (List Nat)),i+d=(usN k).toNat→rows=qAd c s so k i →
  FOk Tryz.prog Tryz.f26 Q (.rnd [0,0,1,0,1,1,1,1,1,1,1,1] (d+1)::[.blk 0,.at [1,1,1,1,1,1,1,1,1]]) (rT0 c s so k rows i)
 | 0,i,rows,hd,hrw=>by
  have hu:=qMj hk5
  have hl:=qCt h0
  have hrl:rows.length=(usN k).toNat:=by rw[hrw,qGw]; omega
  refine FOk.rnd (qD hm 60 ((ra0 c s so k rows rows.length (usN k) i 0 _ _).mpr ⟨?_⟩))
  rw[qF,if_neg (by omega)]
  refine FOk.frz 0 rfl (FOk.norm (ks:=[16,14,13,12,11,7,5,2,0]) (nl:=[]) (st':=(St.mk [(16,SV.v (qA (0:Int))),(14,SV.x 0 []),(13,SV.v (qA (usN k))),(12,SV.p 1 0),(11,SV.o 2),(7,SV.p 3 0),(5,SV.p 4 0),(2,SV.v (qA k)),(0,SV.v (qA so))] [HO.ext false (qG.s false 1 rows.length (cT rows)),HO.cells [SV.v (qC (0:Int)),SV.v (qC (0:Int)),SV.v (qC (0:Int)),SV.v (qC (0:Int))] 53,HO.rowc 111 3 0 (Ct.lit 3 []),HO.cells [SV.x 5 [],SV.x 6 [],SV.x 7 [],SV.x 8 []] 42,HO.cells [SV.v (qA c.1),SV.v (qA c.2),SV.v (qA c.3),SV.x 9 [],SV.x 10 [],SV.x 11 [],SV.x 12 []] 27,HO.ext false (qG.s false 1 (List.length s.1) (cT s.1)),HO.ext false (qG.s false 1 (List.length s.2) (cT s.2)),HO.ext false (qG.s false 1 (List.length s.3) (cT s.3)),HO.ext false (qG.s false 4 (List.length s.4) (cP s.4)),HO.ext false (qG.s false 7 (List.length c.4) (cN c.4)),HO.ext false (qG.s false 1 (List.length c.5) (cI c.5)),HO.ext false (qG.s false 2 (List.length c.6) (cL c.6)),HO.ext false (qG.s false 2 (List.length c.7) (cK c.7))])) (by kernel_rfl) ?_)
  exact FOk.loop (c.gates.length+1) (by kernel_rfl) (FOk.cv (qTf c hc s hs so k fin hf Q hq hcp hp rows (by omega) (by omega) (by rw[hrw]; exact qPe h0 s hso) (qTi h0) (zBc h0) hl.2.2.1 h0 hk5 c.gates.length 0 [] (by omega) (by rw[he,qJp,hrw,show i=(usN k).toNat by omega]; rfl)) ⟨HE.refl _,HE.refl _,⟨rfl,rfl,rfl,fun k hk=>by simp at hk⟩,HE.refl _,HE.refl _,HE.refl _,HE.refl _,HE.refl _,HE.refl _,HE.refl _,HE.refl _,HE.refl _,HE.refl _,trivial⟩)
 | d+1,i,rows,hd,hrw=>by
  have hu:=qMj hk5
  have hun:=zJv hk3 hk5
  have hrl:rows.length=i:=by rw[hrw,qGw]
  refine FOk.rnd (qD hm 60 ((ra0 c s so k rows rows.length (usN k) i (d+1) _ _).mpr ⟨?_⟩))
  rw[qF,if_pos (by omega),qL _ (by omega)]
  refine qDs c hc s hs ⟨⟨h0,hk3,hk5,by omega,by omega⟩,And.intro (fun _=>by omega) ?_⟩
  exact FOk.cv (qTk c hc s hs so k fin hf Q hq hcp hp h0 hso hk3 hk5 he d (i+1) (rows++[zT c s so k (qsN [] c.nodes) (i:Int)]) (by omega) (by rw[hrw,qLd])) ⟨⟨rfl,rfl,(by rw[List.length_append]; rfl),qQo _ rfl⟩,HE.refl _,HE.refl _,HE.refl _,HE.refl _,HE.refl _,HE.refl _,HE.refl _,HE.refl _,HE.refl _,HE.refl _,HE.refl _,HE.refl _,trivial⟩
theorem zUy:Tryz.f26.body.isSome=true:=by kernel_rfl
theorem zXa(c:Cir)(so k:Int):Nat.ble ([.v (.int .i64 so),.agg [.v (.int .i64 c.fx),.v (.int .i64 c.ad),.v (.int .i64 c.ins),.x 0 [],.x 1 [],.x 2 [],.x 3 []],.v (.int .i64 k),.agg [.x 4 [],.x 5 [],.x 6 [],.x 7 []]]:List SV).length Tryz.f26.ntmps=true:=by kernel_rfl
theorem zMo(c:Cir)(hc:c.ok)(s:Sht)(hs:s.ok)(so k:Int)(Q:SV→List HO→Prop)(hq:Q (.tup [.o 0,.v (.int .i64 (zU c s so k).2)]) [.rowc 111 3 (zU c s so k).1.length (.fn (cQ (zU c s so k).1))]):qI Tryz.prog 26 [.v (.int .i64 so),.agg [.v (.int .i64 c.fx),.v (.int .i64 c.ad),.v (.int .i64 c.ins),.x 0 [],.x 1 [],.x 2 [],.x 3 []],.v (.int .i64 k),.agg [.x 4 [],.x 5 [],.x 6 [],.x 7 []]] [.ext false (.s false 7 c.nodes.length (cN c.nodes)),.ext false (.s false 1 c.gates.length (cI c.gates)),.ext false (.s false 2 c.looks.length (cL c.looks)),.ext false (.s false 2 c.eqs.length (cK c.eqs)),.ext false (.s false 1 s.fx.length (cT s.fx)),.ext false (.s false 1 s.ad.length (cT s.ad)),.ext false (.s false 1 s.is.length (cT s.is)),.ext false (.s false 4 s.cp.length (cP s.cp))] Q:=by
 refine qI.mono (qI.eqv (r0:=.tup [.o 0,.v (.int .i64 (zU c s so k).2)]) (h0:=[.rowc 111 3 (zU c s so k).1.length (.fn (cQ (zU c s so k).1))]) ?_) (fun r h' hh=>by rw[hh.1,hh.2]; exact hq)
 refine qI.nilT 111 3 (qJ Tryz.func26 zUy ?_ ?_)
 ·exact zXa c so k
 refine qD hm 60 ((zWy c s so k _ _).mpr ⟨?_⟩)
 have bad:∀ e:Int,zU c s so k=([],e)→(fun r h'=>(r=SV.tup [.o 0,.v (.int .i64 (zU c s so k).2)]∧HEs h' [.rowc 111 3 (zU c s so k).1.length (.fn (cQ (zU c s so k).1))])∨(∃ y,r=.tup [.v (.slice none 0 0),.v y]∧h'=[]∧(SV.tup [.o 0,.v y]=SV.tup [.o 0,.v (.int .i64 (zU c s so k).2)]∧HEs [HO.rowc 111 3 0 (.lit 1 [])] [.rowc 111 3 (zU c s so k).1.length (.fn (cQ (zU c s so k).1))]))) (SV.tup [SV.v (Value.slice none 0 0),SV.v (qA e)]) []:=fun e he=>by
  rw[he]
  exact .inr ⟨_,rfl,rfl,rfl,⟨rfl,rfl,rfl,fun k hk=>by omega⟩,trivial⟩
 rw[qF,qF]
 refine qE (fun h=>?_) (fun ha=>qE (fun h=>?_) (fun hb=>?_))
 ·have e:=qRa (s:=so) (.inl h)
  exact bad _ (by rw[zU,if_pos (by omega),e])
 ·have e:=qRa (s:=so) (.inr h)
  exact bad _ (by rw[zU,if_pos (by omega),e])
 have hso:fE so=0:=zIi (by omega)
 refine qDs c hc s hs ?_
 rw[qN,qT]
 refine qE (fun h1=>?_) (fun h1=>?_)
 ·obtain⟨hk0,hk3,hk5,_⟩:=wK h1
  obtain⟨hp,hcp⟩:=qWj h1
  have e:zU c s so k=(qJp c s so k,0):=by rw[zU,if_neg (fun h=>h hso),if_neg (fun h=>h h1)]
  rw[e]
  refine And.intro (fun _=>Nat.le_refl 4) ?_
  exact FOk.loop ((usN k).toNat+1) (by kernel_rfl) (FOk.cv (qTk c hc s hs so k (qJp c s so k) (qMi hk0 hk5 hp) _ (.inl ⟨rfl,HEs.refl _⟩) hcp hp hk0 hso hk3 hk5 rfl (usN k).toNat 0 [] (by omega) rfl) ⟨⟨rfl,rfl,rfl,fun k hk=>by simp at hk⟩,HE.refl _,HE.refl _,HE.refl _,HE.refl _,HE.refl _,HE.refl _,HE.refl _,HE.refl _,HE.refl _,HE.refl _,HE.refl _,HE.refl _,trivial⟩)
 ·exact bad _ (by rw[zU,if_neg (fun h=>h hso),if_pos h1])
noncomputable def zOi:List SV→List HO→Option ((SV→List HO→Prop)→Prop)
 | [.v (.int .i64 so),.agg [.v (.int .i64 fx),.v (.int .i64 ad),.v (.int .i64 ins),.x 0 [],.x 1 [],.x 2 [],.x 3 []],.v (.int .i64 k),.agg [.x 4 [],.x 5 [],.x 6 [],.x 7 []]],[.ext false (.s false 7 n0 c0),.ext false (.s false 1 n1 c1),.ext false (.s false 2 n2 c2),.ext false (.s false 2 n3 c3),.ext false (.s false 1 m0 d0),.ext false (.s false 1 m1 d1),.ext false (.s false 1 m2 d2),.ext false (.s false 4 m3 d3)] =>
  some fun Q=>lF fx ad ins n0 n1 n2 n3 m0 m1 m2 m3 c0 c1 c2 c3 d0 d1 d2 d3 fun c s=>Q (.tup [.o 0,.v (.int .i64 (zU c s so k).2)]) [.rowc 111 3 (zU c s so k).1.length (.fn (cQ (zU c s so k).1))]
 | _,_=>none
theorem zGg(args:List SV)(h:List HO)(tr:(SV→List HO→Prop)→Prop)(Q:SV→List HO→Prop)(hc:zOi args h=some tr)(ht:tr Q):qI Tryz.prog 26 args h Q:=by
 unfold zOi at hc
 split at hc
 ·simp only[sI] at hc
  subst hc
  obtain⟨c,rfl,rfl,rfl,⟨rfl,e0⟩,⟨rfl,e1⟩,⟨rfl,e2⟩,⟨rfl,e3⟩,hk,ht2⟩:=ht.h.h
  obtain⟨s,⟨rfl,e4⟩,⟨rfl,e5⟩,⟨rfl,e6⟩,⟨rfl,e7⟩,hs,hq⟩:=ht2.h
  exact qI.ac (zMo c hk s hs _ _ Q hq) ⟨⟨rfl,rfl,rfl,rfl,e0⟩,⟨rfl,rfl,rfl,rfl,e1⟩,⟨rfl,rfl,rfl,rfl,e2⟩,⟨rfl,rfl,rfl,rfl,e3⟩,⟨rfl,rfl,rfl,rfl,e4⟩,⟨rfl,rfl,rfl,rfl,e5⟩,⟨rfl,rfl,rfl,rfl,e6⟩,⟨rfl,rfl,rfl,rfl,e7⟩,trivial⟩
 ·cases hc
noncomputable def K94:Con Tryz.prog:=K93.add 26 zOi zGg
end Go.Proofs.YtlmjdcbhpffanaaGreat
/- SheetFaults: the walk. -/
namespace Go.Pl
open Go.Sx
theorem zDk(c:Cir)(s:Sht)(so k:Int):(zU c s so k).1.length≤100000:=by
 rw[zU]
 split
 ·exact Nat.zero_le _
 ·split
  ·exact Nat.zero_le _
  ·rename_i h1 h2
   have h3:xK c k s=0:=by omega
   obtain⟨h4,_,h5,_⟩:=wK h3
   exact qMi h4 h5 (qWj h3).1
end Go.Pl
namespace Go.Proofs.YtlmjdcbhpffanaaGreat
open Go.Sx Go.Pl
set_option linter.unusedVariables false
set_option maxRecDepth 100000
theorem qRy(c:Cir)(s:Sht)(so k r:Int):∀ v∈(qAg c s so k r).1,v<top:=by
 have no:∀(y:Int),∀ v∈(([]:List Nat),y).1,v<top:=fun y v hv=>by cases hv
 rw[qAg]
 by_cases h1:fE so≠0
 ·rw[if_pos h1]; exact no _
 rw[if_neg h1]
 by_cases h2:xK c k s≠0
 ·rw[if_pos h2]; exact no _
 rw[if_neg h2]
 by_cases h3:r<0
 ·rw[if_pos h3]; exact no _
 rw[if_neg h3]
 by_cases h4:nOf k≤r
 ·rw[if_pos h4]; exact no _
 rw[if_neg h4]
 exact zHc so (qsN [] c.nodes) (atQ s k r (qsN [] c.nodes)) c.nodes
theorem zCu{c:Cir}(s:Sht)(so k r:Int):(qAg c s so k r).1.length≤4398046511104:=by
 rw[qAg]
 split
 ·exact Nat.zero_le _
 ·rename_i h1
  split
  ·exact Nat.zero_le _
  ·rename_i h2
   have h3:xK c k s=0:=by omega
   obtain⟨h4,_,_,_⟩:=wK h3
   have h5:=qDi h4
   have h6:=qVf h4 s (show fE so=0 by omega) k r
   repeat' split
   all_goals first
    | exact Nat.zero_le _
    | (show(zT c s so k (qsN [] c.nodes) r).length≤_; omega)
theorem zUd(c:Cir)(s:Sht)(so k r:Int)(K:List It→St→Prop)(R:SV→List HO→Prop):W (xwp Tryz.prog X K94 [] 60 (qK Tryz.f5 [] []) [] [.at []] ⟨qR 0 [.v (.int .i64 so),.agg [.v (.int .i64 c.fx),.v (.int .i64 c.ad),.v (.int .i64 c.ins),.x 0 [],.x 1 [],.x 2 [],.x 3 []],.v (.int .i64 k),.agg [.x 4 [],.x 5 [],.x 6 [],.x 7 []],.v (.int .i64 r)],[.ext false (.s false 7 c.nodes.length (cN c.nodes)),.ext false (.s false 1 c.gates.length (cI c.gates)),.ext false (.s false 2 c.looks.length (cL c.looks)),.ext false (.s false 2 c.eqs.length (cK c.eqs)),.ext false (.s false 1 s.fx.length (cT s.fx)),.ext false (.s false 1 s.ad.length (cT s.ad)),.ext false (.s false 1 s.is.length (cT s.is)),.ext false (.s false 4 s.cp.length (cP s.cp))]⟩ K R)=W (lF c.1 c.2 c.3 c.4.length c.5.length c.6.length c.7.length s.1.length s.2.length s.3.length s.4.length (cN c.4) (cI c.5) (cL c.6) (cK c.7) (cT s.1) (cT s.2) (cT s.3) (cP s.4) fun(c_1:Cir) (s_1:Sht)=>bif qGs c_1 s_1 then R (.v (.bool true)) [] else lC c.1 c.2 c.3 c.4.length c.5.length c.6.length c.7.length (cN c.4) (cI c.5) (cL c.6) (cK c.7) fun(c_2:Cir)=>(∀ M:Mem,0+7≤7)∧lS s.1.length s.2.length s.3.length s.4.length (cT s.1) (cT s.2) (cT s.3) (cP s.4) fun(s_2:Sht)=>(∀ M:Mem,0+4≤4)∧lF c_2.1 c_2.2 c_2.3 c_2.4.length c_2.5.length c_2.6.length c_2.7.length s_2.1.length s_2.2.length s_2.3.length s_2.4.length (cN c_2.4) (cI c_2.5) (cL c_2.6) (cK c_2.7) (cT s_2.1) (cT s_2.2) (cT s_2.3) (cP s_2.4) fun(c_3:Cir) (s_3:Sht)=>lF c.1 c.2 c.3 c.4.length c.5.length c.6.length c.7.length s.1.length s.2.length s.3.length s.4.length (cN c.4) (cI c.5) (cL c.6) (cK c.7) (cT s.1) (cT s.2) (cT s.3) (cP s.4) fun(c_4:Cir) (s_4:Sht)=>lQ2 (List.length (zU c_3 s_3 so k).1) (List.length (zU c_4 s_4 so k).1) (cQ (zU c_3 s_3 so k).1) (cQ (zU c_4 s_4 so k).1) fun(l l2:List (Int×Int×Int))=>bif !decide (l=l2) then R (.v (.bool false)) [] else bif !(zU c_3 s_3 so k).2==(zU c_4 s_4 so k).2 then R (.v (.bool false)) [] else lF c_2.1 c_2.2 c_2.3 c_2.4.length c_2.5.length c_2.6.length c_2.7.length s_2.1.length s_2.2.length s_2.3.length s_2.4.length (cN c_2.4) (cI c_2.5) (cL c_2.6) (cK c_2.7) (cT s_2.1) (cT s_2.2) (cT s_2.3) (cP s_2.4) fun(c_5:Cir) (s_5:Sht)=>lF c.1 c.2 c.3 c.4.length c.5.length c.6.length c.7.length s.1.length s.2.length s.3.length s.4.length (cN c.4) (cI c.5) (cL c.6) (cK c.7) (cT s.1) (cT s.2) (cT s.3) (cP s.4) fun(c_6:Cir) (s_6:Sht)=>lE2 (List.length (qAg c_5 s_5 so k r).1) (List.length (qAg c_6 s_6 so k r).1) (cE (qAg c_5 s_5 so k r).1) (cE (qAg c_6 s_6 so k r).1) fun(l l2:List Nat)=>bif decide (l=l2) then bif(qAg c_5 s_5 so k r).2==(qAg c_6 s_6 so k r).2 then lC c_2.1 c_2.2 c_2.3 c_2.4.length c_2.5.length c_2.6.length c_2.7.length (cN c_2.4) (cI c_2.5) (cL c_2.6) (cK c_2.7) fun(c_7:Cir)=>lC c.1 c.2 c.3 c.4.length c.5.length c.6.length c.7.length (cN c.4) (cI c.5) (cL c.6) (cK c.7) fun(d:Cir)=>d=c_7∧lS s_2.1.length s_2.2.length s_2.3.length s_2.4.length (cT s_2.1) (cT s_2.2) (cT s_2.3) (cP s_2.4) fun(s_7:Sht)=>lS s.1.length s.2.length s.3.length s.4.length (cT s.1) (cT s.2) (cT s.3) (cP s.4) fun(t:Sht)=>t=s_7∧R (.v (.bool true)) [] else R (.v (.bool false)) [] else R (.v (.bool false)) []):=by kernel_rfl
theorem zUg:Tryz.f5.body.isSome=true:=by kernel_rfl
theorem zTu(c:Cir)(so k r:Int):Nat.ble ([.v (.int .i64 so),.agg [.v (.int .i64 c.fx),.v (.int .i64 c.ad),.v (.int .i64 c.ins),.x 0 [],.x 1 [],.x 2 [],.x 3 []],.v (.int .i64 k),.agg [.x 4 [],.x 5 [],.x 6 [],.x 7 []],.v (.int .i64 r)]:List SV).length Tryz.f5.ntmps=true:=by kernel_rfl
theorem qVv(c:Cir)(hc:c.ok)(s:Sht)(hs:s.ok)(so k r:Int)(Q:SV→List HO→Prop)(hq:Q (.v (.bool true)) []):qI Tryz.prog 5 [.v (.int .i64 so),.agg [.v (.int .i64 c.fx),.v (.int .i64 c.ad),.v (.int .i64 c.ins),.x 0 [],.x 1 [],.x 2 [],.x 3 []],.v (.int .i64 k),.agg [.x 4 [],.x 5 [],.x 6 [],.x 7 []],.v (.int .i64 r)] [.ext false (.s false 7 c.nodes.length (cN c.nodes)),.ext false (.s false 1 c.gates.length (cI c.gates)),.ext false (.s false 2 c.looks.length (cL c.looks)),.ext false (.s false 2 c.eqs.length (cK c.eqs)),.ext false (.s false 1 s.fx.length (cT s.fx)),.ext false (.s false 1 s.ad.length (cT s.ad)),.ext false (.s false 1 s.is.length (cT s.is)),.ext false (.s false 4 s.cp.length (cP s.cp))] Q:=by
 refine qJ Tryz.func5 zUg ?_ ?_
 ·exact zTu c so k r
 refine qD hm 60 ((zUd c s so k r _ _).mpr ⟨?_⟩)
 have l1:=zDk c s so k
 refine qDs c hc s hs (qM (fun _=>hq) (fun _=>wS c hc (aI (qIy s hs (aI (qDs c hc s hs (qDs c hc s hs ?_)))))))
 refine⟨⟨_,_,rfl,IsC.refl _ _ _,rfl,IsC.refl _ _ _,by omega,?_⟩⟩
 rw[decide_eq_true rfl,Bool.not_true,cond_false,beq_self_eq_true,Bool.not_true,cond_false]
 refine qDs c hc s hs (qDs c hc s hs ?_)
 refine⟨⟨_,_,rfl,IsC.refl _ _ _,rfl,IsC.refl _ _ _,zCu s so k r,qRy c s so k r,qRy c s so k r,?_⟩⟩
 rw[decide_eq_true rfl,cond_true,beq_self_eq_true,cond_true]
 exact wS c hc (wS c hc ⟨rfl,qIy s hs (qIy s hs ⟨rfl,hq⟩)⟩)
end Go.Proofs.YtlmjdcbhpffanaaGreat
/- Arguments' types: sheets. -/
namespace Go.Pl
open Go.Sx
noncomputable def zFu(s:Sht)(j:Nat):qG :=
 match j with
 | 0=>.s false 1 s.fx.length (cT s.fx)
 | 1=>.s false 1 s.ad.length (cT s.ad)
 | 2=>.s false 1 s.is.length (cT s.is)
 | 3=>.s false 4 s.cp.length (cP s.cp)
 | _=>.v undef
end Go.Pl
namespace Go.Proofs.YtlmjdcbhpffanaaGreat
open Go.Sx Go.Pl Go.RowKit Go.ChangeShapes Go.WideShapes Go.ChangeAt
set_option linter.unusedVariables false
set_option maxRecDepth 100000
theorem zUu:Tryz.prog.bytesOf 67=24:=by kernel_rfl
theorem u31:Tryz.prog.underlying 31=some (.slice 67):=by kernel_rfl
theorem c31:Tryz.prog.cellsOf 31=1:=by kernel_rfl
theorem zDs:Cod Tryz.prog 31 1 (fun(l:List (List Nat)) _=>.s false 1 l.length (cT l)) okT:=(Cod.slice zOu u31 c31 []).mono fun l h=>by
 obtain⟨h1,h2⟩:=h
 rw[zUu,reachBytes] at h2
 exact⟨h1,h2⟩
theorem u98:Tryz.prog.underlying 98=some (.struct #[⟨"Col",3,0,false, "", "",0⟩,⟨"Row",3,1,false, "", "",8⟩]):=by kernel_rfl
theorem c98:Tryz.prog.cellsOf 98=2:=by kernel_rfl
theorem zEk:Cod Tryz.prog 98 2 zCz (fun x=>i64 x.1∧i64 x.2) where
 cells:=c98
 opn:=by
  intro H enc w base sp hd n cs d p hl h hw
  obtain⟨xs,k,_,hx,_,hxl,hf⟩:=DataW.trod_struct u98 h
  simp only[pI] at hx
  obtain⟨rfl,rfl⟩:=hx
  have hW:∀ x∈DataW.weightsEach Tryz.prog [3,3] (xs.map (·.1)),x≤reachBytes:=fun x hx=>hw x (by simp only[DataW.weights,u98]; exact hx)
  have hxl:xs.length=2:=hxl
  obtain⟨x0,o0,r0⟩:=qBr.field (off:=0) (hf 0 _ rfl) (by omega) hW rfl (by omega)
  obtain⟨x1,o1,r1⟩:=qBr.field (off:=1) (hf 1 _ rfl) (by omega) hW rfl (by omega)
  refine⟨(x0,x1),⟨o0,o1⟩,fun j hj=>?_⟩
  match j,hj with
  | 0,_=>exact r0 0 (by omega)
  | 1,_=>exact r1 0 (by omega)
theorem zSu:Tryz.prog.underlying 101=some (.struct #[⟨"A",98,0,false, "", "",0⟩,⟨"B",98,2,false, "", "",16⟩]):=by kernel_rfl
theorem zWq:Tryz.prog.cellsOf 101=4:=by kernel_rfl
theorem zLg:Cod Tryz.prog 101 4 zIq (fun x=>i64 x.1∧i64 x.2.1∧i64 x.2.2.1∧i64 x.2.2.2) where
 cells:=zWq
 opn:=by
  intro H enc w base sp hd n cs d p hl h hw
  obtain⟨xs,k,_,hx,_,hxl,hf⟩:=DataW.trod_struct zSu h
  simp only[pI] at hx
  obtain⟨rfl,rfl⟩:=hx
  have hW:∀ x∈DataW.weightsEach Tryz.prog [98,98] (xs.map (·.1)),x≤reachBytes:=fun x hx=>hw x (by simp only[DataW.weights,zSu]; exact hx)
  have hxl:xs.length=2:=hxl
  obtain⟨x0,o0,r0⟩:=zEk.field (off:=0) (hf 0 _ rfl) (by omega) hW rfl (by omega)
  obtain⟨x1,o1,r1⟩:=zEk.field (off:=2) (hf 1 _ rfl) (by omega) hW rfl (by omega)
  refine⟨(x0.1,x0.2,x1.1,x1.2),⟨o0.1,o0.2,o1.1,o1.2⟩,fun j hj=>?_⟩
  match j,hj with
  | 0,_=>exact r0 0 (by omega)
  | 1,_=>exact r0 1 (by omega)
  | 2,_=>exact r1 0 (by omega)
  | 3,_=>exact r1 1 (by omega)
theorem zTb:Tryz.prog.bytesOf 101=32:=by kernel_rfl
theorem u40:Tryz.prog.underlying 40=some (.slice 101):=by kernel_rfl
theorem c40:Tryz.prog.cellsOf 40=1:=by kernel_rfl
theorem zHb:Cod Tryz.prog 40 1 (fun(l:List (Int×Int×Int×Int)) _=>.s false 4 l.length (cP l)) (fun l=>(∀ x∈l,i64 x.1∧i64 x.2.1∧i64 x.2.2.1∧i64 x.2.2.2)∧l.length*32≤140737488351232):=(Cod.slice zLg u40 c40 dP).mono fun l h=>by
 obtain⟨h1,h2⟩:=h
 rw[zTb,reachBytes] at h2
 exact⟨h1,h2⟩
theorem u42:Tryz.prog.underlying 42=some (.struct #[⟨"Fixed",31,0,false, "", "",0⟩,⟨"Advice",31,1,false, "", "",24⟩,⟨"Instance",31,2,false, "", "",48⟩,⟨"Copies",40,3,false, "", "",72⟩]):=by kernel_rfl
theorem c42:Tryz.prog.cellsOf 42=4:=by kernel_rfl
theorem zTn:Cod Tryz.prog 42 4 zFu Sht.ok where
 cells:=c42
 opn:=by
  intro H enc w base sp hd n cs d p hl h hw
  obtain⟨xs,k,_,hx,_,hxl,hf⟩:=DataW.trod_struct u42 h
  simp only[pI] at hx
  obtain⟨rfl,rfl⟩:=hx
  have hW:∀ x∈DataW.weightsEach Tryz.prog [31,31,31,40] (xs.map (·.1)),x≤reachBytes:=fun x hx=>hw x (by simp only[DataW.weights,u42]; exact hx)
  have hxl:xs.length=4:=hxl
  obtain⟨x0,o0,r0⟩:=zDs.field (off:=0) (hf 0 _ rfl) (by omega) hW rfl (by omega)
  obtain⟨x1,o1,r1⟩:=zDs.field (off:=1) (hf 1 _ rfl) (by omega) hW rfl (by omega)
  obtain⟨x2,o2,r2⟩:=zDs.field (off:=2) (hf 2 _ rfl) (by omega) hW rfl (by omega)
  obtain⟨x3,o3,r3⟩:=zHb.field (off:=3) (hf 3 _ rfl) (by omega) hW rfl (by omega)
  refine⟨⟨x0,x1,x2,x3⟩,⟨o0,o1,o2,o3⟩,fun j hj=>?_⟩
  match j,hj with
  | 0,_=>exact r0 0 (by omega)
  | 1,_=>exact r1 0 (by omega)
  | 2,_=>exact r2 0 (by omega)
  | 3,_=>exact r3 0 (by omega)
end Go.Proofs.YtlmjdcbhpffanaaGreat
