/- The texts Z49 .. Z80a of this proof, one behind the other. -/
import Derived.Test.YtlmjdcbhpffanaaGreatM2
/- The checker: the greatest degree; the first place that is wrong. -/
namespace Go.Pl
open Go.Sx
def gtN(dg l:List Int):Int:=l.foldl (fun m g=>if m<gI dg g.toNat then gI dg g.toNat else m) 0
structure lG (dn n : Nat) (c : Nat → Nat → qG) (k : List Int → Prop) : Prop where
  h : ∃ l : List Int, n = l.length ∧ IsC n 1 c (cI l) ∧ l.length ≤ 17592186043904 ∧ (∀ g ∈ l, 0 ≤ g ∧ g < (dn : Int)) ∧ k l
structure lKc (ck : Nat → Nat → qG) (k : Cir → List Int → Prop) : Prop where
  h : ∃ (c : Cir) (dg : List Int), IsC 1 8 ck (fun _ j => jX c dg j) ∧ c.ok ∧ k c dg
def yL(c:Cir)(x:Int):Bool:=decide (0≤x∧x<(c.nodes.length:Int))
theorem qNa{p:Int→Bool}{l:List Int}{k:Nat}(h:k<l.length):zA p k (l.drop k)=if p (gI l k) then(k:Int) else zA p (k+1) (l.drop (k+1)):=by
 rw[List.drop_eq_getElem_cons h,zA,gI,List.getD_eq_getElem?_getD,List.getElem?_eq_getElem h]; rfl
theorem qHk{dg l:List Int}{k:Nat}(h:k<l.length):gtN dg (l.take (k+1))=if gtN dg (l.take k)<gI dg (gI l k).toNat then gI dg (gI l k).toNat else gtN dg (l.take k):=by
 rw[qRm h,gtN,List.foldl_append]; rfl
end Go.Pl
namespace Go.Proofs.YtlmjdcbhpffanaaGreat
open Go.Sx Go.Pl
set_option linter.unusedVariables false
set_option maxRecDepth 100000
theorem gtS(b0 b1 b2 b3 b4:Bool)(c:Cir)(dg:List Int)(b5:Bool)(l:List Int)(K:List It→St→Prop)(R:SV→List HO→Prop):W (xwp Tryz.prog X K48 [] 60 (qK Tryz.f133 [] [⟨[0,1,0,1,1],[10,9,8,5,2],[]⟩]) [] [.at []] ⟨qR 0 [.agg [.v (.int .i64 c.fx),.v (.int .i64 c.ad),.v (.int .i64 c.ins),.x 0 [],.x 1 [],.x 2 [],.x 3 [],.x 4 []],.x 5 []],[.ext b0 (.s false 7 c.nodes.length (cN c.nodes)),.ext b1 (.s false 1 c.gates.length (cI c.gates)),.ext b2 (.s false 2 c.looks.length (cL c.looks)),.ext b3 (.s false 2 c.eqs.length (cK c.eqs)),.ext b4 (.s false 1 dg.length (cI dg)),.ext b5 (.s false 1 l.length (cI l))]⟩ K R)=W (K [.at [0,1,0,1,1],.blk 0,.at [1,1,1]] (St.mk [(10,.v (qA 0)),(9,.v (qA (↑l.length:Int))),(8,.x 0 []),(5,.v (qA 0)),(2,.p 1 0)] [.ext b5 (.s false 1 l.length (cI l)),.cells [.v (qA c.1),.v (qA c.2),.v (qA c.3),.x 2 [],.x 3 [],.x 4 [],.x 5 [],.x 6 []] 171,.ext b0 (.s false 7 c.4.length (cN c.4)),.ext b1 (.s false 1 c.5.length (cI c.5)),.ext b2 (.s false 2 c.6.length (cL c.6)),.ext b3 (.s false 2 c.7.length (cK c.7)),.ext b4 (.s false 1 dg.length (cI dg))])):=by kernel_rfl
theorem gtR(b0 b1 b2 b3 b4:Bool)(c:Cir)(dg:List Int)(b5:Bool)(l:List Int)(m:Int)(k M:Nat)(K:List It→St→Prop)(R:SV→List HO→Prop):W (xwp Tryz.prog X K48 [] 60 (qK Tryz.f133 [] [⟨[0,1,0,1,1],[10,9,8,5,2],[]⟩]) [] (.at [0,0,1,0,1,1]::.rnd [0,0,1,0,1,1] M::[.blk 0,.at [1,1,1]]) ⟨[(10,.v (.int .i64 (k:Int))),(9,.v (.int .i64 (l.length:Int))),(8,.x 0 []),(5,.v (.int .i64 m)),(2,.p 1 0)],[.ext b5 (.s false 1 l.length (cI l)),.cells [.v (.int .i64 c.fx),.v (.int .i64 c.ad),.v (.int .i64 c.ins),.x 2 [],.x 3 [],.x 4 [],.x 5 [],.x 6 []] 171,.ext b0 (.s false 7 c.nodes.length (cN c.nodes)),.ext b1 (.s false 1 c.gates.length (cI c.gates)),.ext b2 (.s false 2 c.looks.length (cL c.looks)),.ext b3 (.s false 2 c.eqs.length (cK c.eqs)),.ext b4 (.s false 1 dg.length (cI dg))]⟩ K R)=W (bif decide ((↑k:Int)<(↑l.length:Int)) then(∀ M:Mem,(0:Int)≤(↑k:Int)∧(↑k:Int)<(↑l.length:Int))∧(∀ M:Mem,k<List.length l)∧(∀ M:Mem,(0:Int)≤gI l k∧gI l k<(↑dg.length:Int))∧(∀ M:Mem,Int.toNat (gI l k)<List.length dg)∧K [.rnd [0,0,1,0,1,1] M,.blk 0,.at [1,1,1]] (St.mk [(10,.v (qA (IntKind.wrap .i64 ((↑k:Int)+(1:Int))))),(9,.v (qA (↑l.length:Int))),(8,.x 0 []),(5,.v (qA (if m<gI dg (Int.toNat (gI l k)) then gI dg (Int.toNat (gI l k)) else m))),(2,.p 1 0)] [.ext b5 (.s false 1 l.length (cI l)),.cells [.v (qA c.1),.v (qA c.2),.v (qA c.3),.x 2 [],.x 3 [],.x 4 [],.x 5 [],.x 6 []] 171,.ext b0 (.s false 7 c.4.length (cN c.4)),.ext b1 (.s false 1 c.5.length (cI c.5)),.ext b2 (.s false 2 c.6.length (cL c.6)),.ext b3 (.s false 2 c.7.length (cK c.7)),.ext b4 (.s false 1 dg.length (cI dg))]) else R (.v (qA m)) []):=by kernel_rfl
theorem ijS(b:Bool)(l:List Int)(c:Cir)(dg:List Int)(K:List It→St→Prop)(R:SV→List HO→Prop):W (xwp Tryz.prog X K48 [(102,[]),(103,[])] 60 (qK Tryz.f129 [] [⟨[0,1,0,1],[8,7,0,1],[]⟩]) [] [.at []] ⟨qR 0 [.x 0 [],.fn (.func 102) [] [.x 1 []]],[.ext b (.s false 1 l.length (cI l)),.ext true (.s true 8 1 (fun _ j=>jX c dg j))]⟩ K R)=W (K [.at [0,1,0,1],.blk 0,.at [1,1]] (St.mk [(8,.v (qA 0)),(7,.v (qA (↑l.length:Int))),(0,.x 0 []),(1,SV.fn (Fn.func 102) [] [.x 1 []])] [.ext b (.s false 1 l.length (cI l)),.ext true (.s true 8 1 fun(x j:Nat)=>jX c dg j)])):=by kernel_rfl
theorem ijR(b:Bool)(l:List Int)(c:Cir)(dg:List Int)(k M:Nat)(K:List It→St→Prop)(R:SV→List HO→Prop):W (xwp Tryz.prog X K48 [(102,[]),(103,[])] 60 (qK Tryz.f129 [] [⟨[0,1,0,1],[8,7,0,1],[]⟩]) [] (.at [0,0,1,0,1]::.rnd [0,0,1,0,1] M::[.blk 0,.at [1,1]]) ⟨[(8,.v (.int .i64 (k:Int))),(7,.v (.int .i64 (l.length:Int))),(0,.x 0 []),(1,.fn (.func 102) [] [.x 1 []])],[.ext b (.s false 1 l.length (cI l)),.ext true (.s true 8 1 (fun _ j=>jX c dg j))]⟩ K R)=W (bif decide ((↑k:Int)<(↑l.length:Int)) then(∀ M:Mem,(0:Int)≤(↑k:Int)∧(↑k:Int)<(↑l.length:Int))∧(∀ M:Mem,k<List.length l)∧(∀ M:Mem,0<1)∧(∀ M:Mem,0<1)∧(∀ M:Mem,0<1)∧(∀ M:Mem,0<1)∧(∀ M:Mem,0<1)∧(∀ M:Mem,0<1)∧bif decide ((0:Int)≤gI l k) then bif !decide (gI l k<(↑c.4.length:Int)) then R (.v (qA (↑k:Int))) [] else K [.rnd [0,0,1,0,1] M,.blk 0,.at [1,1]] (St.mk [(8,.v (qA (IntKind.wrap .i64 ((↑k:Int)+(1:Int))))),(7,.v (qA (↑l.length:Int))),(0,.x 0 []),(1,SV.fn (Fn.func 102) [] [.x 1 []])] [.ext b (.s false 1 l.length (cI l)),.ext true (.s true 8 1 fun(x j:Nat)=>jX c dg j)]) else R (.v (qA (↑k:Int))) [] else R (.v (qA (-1))) []):=by kernel_rfl
theorem ilS(b:Bool)(l:List Int)(c:Cir)(dg:List Int)(K:List It→St→Prop)(R:SV→List HO→Prop):W (xwp Tryz.prog X K48 [(131,[])] 60 (qK Tryz.f129 [] [⟨[0,1,0,1],[8,7,0,1],[]⟩]) [] [.at []] ⟨qR 0 [.x 0 [],.fn (.func 131) [] [.x 1 []]],[.ext b (.s false 1 l.length (cI l)),.ext true (.s true 8 1 (fun _ j=>jX c dg j))]⟩ K R)=W (K [.at [0,1,0,1],.blk 0,.at [1,1]] (St.mk [(8,.v (qA 0)),(7,.v (qA (↑l.length:Int))),(0,.x 0 []),(1,SV.fn (Fn.func 131) [] [.x 1 []])] [.ext b (.s false 1 l.length (cI l)),.ext true (.s true 8 1 fun(x j:Nat)=>jX c dg j)])):=by kernel_rfl
theorem ilR(b:Bool)(l:List Int)(c:Cir)(dg:List Int)(k M:Nat)(K:List It→St→Prop)(R:SV→List HO→Prop):W (xwp Tryz.prog X K48 [(131,[])] 60 (qK Tryz.f129 [] [⟨[0,1,0,1],[8,7,0,1],[]⟩]) [] (.at [0,0,1,0,1]::.rnd [0,0,1,0,1] M::[.blk 0,.at [1,1]]) ⟨[(8,.v (.int .i64 (k:Int))),(7,.v (.int .i64 (l.length:Int))),(0,.x 0 []),(1,.fn (.func 131) [] [.x 1 []])],[.ext b (.s false 1 l.length (cI l)),.ext true (.s true 8 1 (fun _ j=>jX c dg j))]⟩ K R)=W (bif decide ((↑k:Int)<(↑l.length:Int)) then(∀ M:Mem,(0:Int)≤(↑k:Int)∧(↑k:Int)<(↑l.length:Int))∧(∀ M:Mem,k<List.length l)∧(∀ M:Mem,0<1)∧(∀ M:Mem,0<1)∧(∀ M:Mem,0<1)∧(∀ M:Mem,0<1)∧(∀ M:Mem,0<1)∧(∀ M:Mem,0<1)∧lH c.1 c.2 c.3 c.4.length c.5.length c.6.length c.7.length dg.length (cN c.4) (cI c.5) (cL c.6) (cK c.7) (cI dg) fun(c_1:Cir) (dg_1:List Int)=>bif !jI c_1 (gI l k) then R (.v (qA (↑k:Int))) [] else K [.rnd [0,0,1,0,1] M,.blk 0,.at [1,1]] (St.mk [(8,.v (qA (IntKind.wrap .i64 ((↑k:Int)+(1:Int))))),(7,.v (qA (↑l.length:Int))),(0,.x 0 []),(1,SV.fn (Fn.func 131) [] [.x 1 []])] [.ext b (.s false 1 l.length (cI l)),.ext true (.s true 8 1 fun(x j:Nat)=>jX c dg j)]) else R (.v (qA (-1))) []):=by kernel_rfl
theorem zAf(b0 b1 b2 b3 b4:Bool)(c:Cir)(dg:List Int)(b5:Bool)(l:List Int)(hl:l.length≤17592186043904)(hg:∀ g∈l,0≤g∧g<(dg.length:Int))(Q:SV→List HO→Prop)(hq:Q (.v (.int .i64 (gtN dg l))) []):∀(d k:Nat) (m:Int),k+d=l.length→m=gtN dg (l.take k) →
  FOk Tryz.prog Tryz.f133 Q (.rnd [0,0,1,0,1,1] (d+1)::[.blk 0,.at [1,1,1]]) ⟨[(10,.v (.int .i64 (k:Int))),(9,.v (.int .i64 (l.length:Int))),(8,.x 0 []),(5,.v (.int .i64 m)),(2,.p 1 0)],[.ext b5 (.s false 1 l.length (cI l)),.cells [.v (.int .i64 c.fx),.v (.int .i64 c.ad),.v (.int .i64 c.ins),.x 2 [],.x 3 [],.x 4 [],.x 5 [],.x 6 []] 171,.ext b0 (.s false 7 c.nodes.length (cN c.nodes)),.ext b1 (.s false 1 c.gates.length (cI c.gates)),.ext b2 (.s false 2 c.looks.length (cL c.looks)),.ext b3 (.s false 2 c.eqs.length (cK c.eqs)),.ext b4 (.s false 1 dg.length (cI dg))]⟩
 | 0,k,m,hd,he=>by
  refine FOk.rnd (qD hm 60 ((gtR b0 b1 b2 b3 b4 c dg b5 l m k 0 _ _).mpr ⟨?_⟩))
  rw[qF,if_neg (by omega)]
  rw[show k=l.length by omega,List.take_length] at he
  rw[he]
  exact hq
 | d+1,k,m,hd,he=>by
  have hk:k<l.length:=by omega
  obtain⟨h1,h2⟩:=hg _ (xI hk)
  refine FOk.rnd (qD hm 60 ((gtR b0 b1 b2 b3 b4 c dg b5 l m k (d+1) _ _).mpr ⟨?_⟩))
  rw[qF,if_pos (by omega),qL _ (by omega)]
  refine aI (aI (aI (aI (?_))))
  exact zAf b0 b1 b2 b3 b4 c dg b5 l hl hg Q hq d (k+1) _ (by omega) (by rw[qHk hk,he])
theorem bGt:Tryz.f133.body.isSome=true:=by kernel_rfl
theorem nGt(c:Cir):Nat.ble [(.agg [.v (.int .i64 c.fx),.v (.int .i64 c.ad),.v (.int .i64 c.ins),.x 0 [],.x 1 [],.x 2 [],.x 3 [],.x 4 []]:SV),.x 5 []].length Tryz.f133.ntmps=true:=by kernel_rfl
theorem zTg(b0 b1 b2 b3 b4:Bool)(c:Cir)(dg:List Int)(b5:Bool)(l:List Int)(hl:l.length≤17592186043904)(hg:∀ g∈l,0≤g∧g<(dg.length:Int))(Q:SV→List HO→Prop)(hq:Q (.v (.int .i64 (gtN dg l))) []):qI Tryz.prog 133 [.agg [.v (.int .i64 c.fx),.v (.int .i64 c.ad),.v (.int .i64 c.ins),.x 0 [],.x 1 [],.x 2 [],.x 3 [],.x 4 []],.x 5 []] [.ext b0 (.s false 7 c.nodes.length (cN c.nodes)),.ext b1 (.s false 1 c.gates.length (cI c.gates)),.ext b2 (.s false 2 c.looks.length (cL c.looks)),.ext b3 (.s false 2 c.eqs.length (cK c.eqs)),.ext b4 (.s false 1 dg.length (cI dg)),.ext b5 (.s false 1 l.length (cI l))] Q:=by
 refine qJ Tryz.func133 bGt ?_ ?_
 ·exact nGt c
 refine qD hm 60 ((gtS b0 b1 b2 b3 b4 c dg b5 l _ _).mpr ⟨?_⟩)
 exact FOk.loop (l.length+1) (by kernel_rfl) (zAf b0 b1 b2 b3 b4 c dg b5 l hl hg Q hq l.length 0 0 (by omega) rfl)
noncomputable def gGt:List SV→List HO→Option ((SV→List HO→Prop)→Prop)
 | [.agg [.v (.int .i64 fx),.v (.int .i64 ad),.v (.int .i64 ins),.x 0 [],.x 1 [],.x 2 [],.x 3 [],.x 4 []],.x 5 []],[.ext _ (.s false 7 n0 c0),.ext _ (.s false 1 n1 c1),.ext _ (.s false 2 n2 c2),.ext _ (.s false 2 n3 c3),.ext _ (.s false 1 n4 c4),.ext _ (.s false 1 n5 c5)]=>some fun Q=>lH fx ad ins n0 n1 n2 n3 n4 c0 c1 c2 c3 c4 fun c dg=>lG dg.length n5 c5 fun l=>Q (.v (.int .i64 (gtN dg l))) []
 | _,_=>none
theorem zMm(args:List SV)(h:List HO)(tr:(SV→List HO→Prop)→Prop)(Q:SV→List HO→Prop)(hc:gGt args h=some tr)(ht:tr Q):qI Tryz.prog 133 args h Q:=by
 unfold gGt at hc
 split at hc
 ·simp only[sI] at hc
  subst hc
  obtain⟨c,dg,rfl,rfl,rfl,⟨rfl,e0⟩,⟨rfl,e1⟩,⟨rfl,e2⟩,⟨rfl,e3⟩,⟨rfl,e4⟩,hk,hq⟩:=ht.h
  obtain⟨l,rfl,e5,hl,hg,hq⟩:=hq.h
  exact qI.ac (zTg _ _ _ _ _ c dg _ l hl hg Q hq) ⟨⟨rfl,rfl,rfl,rfl,e0⟩,⟨rfl,rfl,rfl,rfl,e1⟩,⟨rfl,rfl,rfl,rfl,e2⟩,⟨rfl,rfl,rfl,rfl,e3⟩,⟨rfl,rfl,rfl,rfl,e4⟩,⟨rfl,rfl,rfl,rfl,e5⟩,trivial⟩
 ·cases hc
theorem b80:Tryz.f129.body.isSome=true:=by kernel_rfl
theorem qZl(b:Bool)(l:List Int)(hb:l.length≤17592186043904)(c:Cir)(dg:List Int)(hc:c.ok)(Q:SV→List HO→Prop):∀(d k:Nat),k+d=l.length→Q (.v (.int .i64 (zA (fun n=>!yL c n) k (l.drop k)))) [] →
  FOk Tryz.prog Tryz.f129 Q (.rnd [0,0,1,0,1] (d+1)::[.blk 0,.at [1,1]]) ⟨[(8,.v (.int .i64 (k:Int))),(7,.v (.int .i64 (l.length:Int))),(0,.x 0 []),(1,.fn (.func 102) [] [.x 1 []])],[.ext b (.s false 1 l.length (cI l)),.ext true (.s true 8 1 (fun _ j=>jX c dg j))]⟩
 | 0,k,hd,hq=>by
  refine FOk.rnd (qD hm 60 ((ijR b l c dg k 0 _ _).mpr ⟨?_⟩))
  rw[qF,if_neg (by omega)]
  rw[show k=l.length by omega,List.drop_length] at hq
  exact hq
 | d+1,k,hd,hq=>by
  have hk:k<l.length:=by omega
  refine FOk.rnd (qD hm 60 ((ijR b l c dg k (d+1) _ _).mpr ⟨?_⟩))
  rw[qF,if_pos (by omega),qL _ (by omega)]
  rw[qNa hk] at hq
  simp only[qF,qN]
  refine aI (aI (aI (aI (aI (aI (aI (aI (?_))))))))
  have go:yL c (gI l k)=true→FOk Tryz.prog Tryz.f129 Q (.rnd [0,0,1,0,1] (d+1)::[.blk 0,.at [1,1]]) ⟨[(8,.v (.int .i64 ((k+1:Nat):Int))),(7,.v (.int .i64 (l.length:Int))),(0,.x 0 []),(1,.fn (.func 102) [] [.x 1 []])],[.ext b (.s false 1 l.length (cI l)),.ext true (.s true 8 1 (fun _ j=>jX c dg j))]⟩:=fun h=>by
   rw[h] at hq
   exact qZl b l hb c dg hc Q d (k+1) (by omega) hq
  have no:yL c (gI l k)=false→Q (.v (.int .i64 (k:Int))) []:=fun h=>by
   rw[h] at hq
   exact hq
  refine qE (fun h=>qE (fun h2=>go (decide_eq_true ⟨h,h2⟩)) (fun h2=>no (decide_eq_false fun hh=>h2 hh.2))) (fun h=>no (decide_eq_false fun hh=>h hh.1))
theorem nij:Nat.ble [SV.x 0 [],.fn (.func 102) [] [.x 1 []]].length Tryz.f129.ntmps=true:=by kernel_rfl
theorem zRl(b:Bool)(l:List Int)(hb:l.length≤17592186043904)(c:Cir)(dg:List Int)(hc:c.ok)(Q:SV→List HO→Prop)(hq:Q (.v (.int .i64 (zA (fun n=>!yL c n) 0 l))) []):qI Tryz.prog 129 [.x 0 [],.fn (.func 102) [] [.x 1 []]] [.ext b (.s false 1 l.length (cI l)),.ext true (.s true 8 1 (fun _ j=>jX c dg j))] Q:=by
 refine qJ Tryz.func129 b80 ?_ ?_
 ·exact nij
 refine qD hm 60 ((ijS b l c dg _ _).mpr ⟨?_⟩)
 exact FOk.loop (l.length+1) (by kernel_rfl) (qZl b l hb c dg hc Q l.length 0 (by omega) hq)
theorem qYu(b:Bool)(l:List Int)(hb:l.length≤17592186043904)(c:Cir)(dg:List Int)(hc:c.ok)(Q:SV→List HO→Prop):∀(d k:Nat),k+d=l.length→Q (.v (.int .i64 (zA (fun n=>!jI c n) k (l.drop k)))) [] →
  FOk Tryz.prog Tryz.f129 Q (.rnd [0,0,1,0,1] (d+1)::[.blk 0,.at [1,1]]) ⟨[(8,.v (.int .i64 (k:Int))),(7,.v (.int .i64 (l.length:Int))),(0,.x 0 []),(1,.fn (.func 131) [] [.x 1 []])],[.ext b (.s false 1 l.length (cI l)),.ext true (.s true 8 1 (fun _ j=>jX c dg j))]⟩
 | 0,k,hd,hq=>by
  refine FOk.rnd (qD hm 60 ((ilR b l c dg k 0 _ _).mpr ⟨?_⟩))
  rw[qF,if_neg (by omega)]
  rw[show k=l.length by omega,List.drop_length] at hq
  exact hq
 | d+1,k,hd,hq=>by
  have hk:k<l.length:=by omega
  refine FOk.rnd (qD hm 60 ((ilR b l c dg k (d+1) _ _).mpr ⟨?_⟩))
  rw[qF,if_pos (by omega),qL _ (by omega)]
  rw[qNa hk] at hq
  refine aI (aI (aI (aI (aI (aI (aI (aI (?_))))))))
  refine qHf c dg hc (qM (fun h=>?_) (fun h=>?_))
  ·rw[Bool.not_eq_true'] at h
   rw[h] at hq
   exact hq
  ·rw[Bool.not_eq_false'] at h
   rw[h] at hq
   exact qYu b l hb c dg hc Q d (k+1) (by omega) hq
theorem nil:Nat.ble [SV.x 0 [],.fn (.func 131) [] [.x 1 []]].length Tryz.f129.ntmps=true:=by kernel_rfl
theorem zTa(b:Bool)(l:List Int)(hb:l.length≤17592186043904)(c:Cir)(dg:List Int)(hc:c.ok)(Q:SV→List HO→Prop)(hq:Q (.v (.int .i64 (zA (fun n=>!jI c n) 0 l))) []):qI Tryz.prog 129 [.x 0 [],.fn (.func 131) [] [.x 1 []]] [.ext b (.s false 1 l.length (cI l)),.ext true (.s true 8 1 (fun _ j=>jX c dg j))] Q:=by
 refine qJ Tryz.func129 b80 ?_ ?_
 ·exact nil
 refine qD hm 60 ((ilS b l c dg _ _).mpr ⟨?_⟩)
 exact FOk.loop (l.length+1) (by kernel_rfl) (qYu b l hb c dg hc Q l.length 0 (by omega) hq)
noncomputable def g80:List SV→List HO→Option ((SV→List HO→Prop)→Prop)
 | [.x 0 [],.fn (.func 102) [] [.x 1 []]],[.ext _ (.s false 1 n c),.ext true (.s true 8 1 ck)]=>some fun Q=>lI n c fun l=>lKc ck fun c dg=>Q (.v (.int .i64 (zA (fun n=>!yL c n) 0 l))) []
 | [.x 0 [],.fn (.func 131) [] [.x 1 []]],[.ext _ (.s false 1 n c),.ext true (.s true 8 1 ck)]=>some fun Q=>lI n c fun l=>lKc ck fun c dg=>Q (.v (.int .i64 (zA (fun n=>!jI c n) 0 l))) []
 | _,_=>none
theorem zOo(args:List SV)(h:List HO)(tr:(SV→List HO→Prop)→Prop)(Q:SV→List HO→Prop)(hc:g80 args h=some tr)(ht:tr Q):qI Tryz.prog 129 args h Q:=by
 unfold g80 at hc
 split at hc
 ·simp only[sI] at hc
  subst hc
  obtain⟨l,rfl,he,hb,hk⟩:=ht.h
  obtain⟨c,dg,e1,hc,hq⟩:=hk.h
  exact qI.ac (zRl _ l hb c dg hc Q hq) ⟨⟨rfl,rfl,rfl,rfl,he⟩,⟨rfl,rfl,rfl,rfl,e1⟩,trivial⟩
 ·simp only[sI] at hc
  subst hc
  obtain⟨l,rfl,he,hb,hk⟩:=ht.h
  obtain⟨c,dg,e1,hc,hq⟩:=hk.h
  exact qI.ac (zTa _ l hb c dg hc Q hq) ⟨⟨rfl,rfl,rfl,rfl,he⟩,⟨rfl,rfl,rfl,rfl,e1⟩,trivial⟩
 ·cases hc
noncomputable def K49:Con Tryz.prog:=(K48.add 133 gGt zMm).add 129 g80 zOo
end Go.Proofs.YtlmjdcbhpffanaaGreat
/- The checker: columns that may be copied; lookups. -/
namespace Go.Pl
open Go.Sx
def qLn(c:Cir)(k:Int):Int:=if k=2 then c.fx else if k=3 then c.ad else if k=4 then c.ins else 0
def okK(c:Cir)(x:Int×Int):Bool:=decide ((2≤x.1∧x.1≤4)∧0≤x.2∧x.2<qLn c x.1)
def eqF(c:Cir):List (Int×Int)→List (Int×Int)→Bool
 | seen,x::r=>okK c x&&!decide (x∈seen)&&eqF c (seen++[x]) r
 | _,[]=>true
def prK(x:Int×Int):List Int:=[x.1,x.2]
theorem qRf{x y:Int×Int}:prK x=prK y↔x=y:=by
 constructor
 ·intro h
  simp only[prK,List.cons.injEq,and_true] at h
  exact Prod.ext h.1 h.2
 ·intro h; rw[h]
theorem qLo:∀(l:List (Int×Int)) (x:Int×Int),xJ (l.map prK) [x.1,x.2]=decide (x∈l)
 | [],x=>by simp [xJ]
 | y::r,x=>by
  have:decide ([x.1,x.2]=prK y)=decide (x=y):=decide_eq_decide.2 qRf
  rw[List.map_cons,xJ,this,qLo r x]
  by_cases h:x=y
  ·simp [h]
  ·simp [h]
theorem qSq:∀(kl:List (List Int)) (x:List Int),xJ kl x=false→yF kl x=kl++[x]
 | [],x,_=>rfl
 | k::r,x,h=>by
  rw[xJ,Bool.or_eq_false_iff] at h
  rw[yF,h.1,cond_false,qSq r x h.2]
  rfl
theorem zKc(k:Int):xJ [[2],[3],[4]] [k]=decide (2≤k∧k≤4):=by
 simp only[xJ,List.cons.injEq,and_true,Bool.or_false]
 by_cases h2:k=2
 ·subst h2; rfl
 ·by_cases h3:k=3
  ·subst h3; rfl
  ·by_cases h4:k=4
   ·subst h4; rfl
   ·rw[decide_eq_false h2,decide_eq_false h3,decide_eq_false h4,decide_eq_false (by omega)]; rfl
theorem zPd(c:Cir)(k:Int):qGq [[2],[3],[4]] [c.fx,c.ad,c.ins] [k]=qLn c k:=by
 simp only[qGq,qLn,List.cons.injEq,and_true]
 by_cases h2:k=2
 ·simp [h2]
 ·by_cases h3:k=3
  ·simp [h3]
  ·by_cases h4:k=4
   ·simp [h4]
   ·simp [h2,h3,h4]
theorem qYl{l:List (Int×Int)}{k:Nat}(h:k<l.length):l.drop k=gK l k::l.drop (k+1):=by
 rw[List.drop_eq_getElem_cons h,gK,List.getD_eq_getElem?_getD,List.getElem?_eq_getElem h]; rfl
theorem qPp{l:List (Int×Int)}{k:Nat}(h:k<l.length):l.take (k+1)=l.take k++[gK l k]:=by
 rw[List.take_add_one,List.getElem?_eq_getElem h,gK,List.getD_eq_getElem?_getD,List.getElem?_eq_getElem h]; rfl
structure lLk (n : Nat) (c : Nat → Nat → qG) (k : List (List Int × List Int) → Prop) : Prop where
  h : ∃ l : List (List Int × List Int), n = l.length ∧ IsC n 2 c (cL l) ∧ l.length * 48 ≤ 140737488351232 ∧ (∀ x ∈ l, x.1.length * 8 ≤ 140737488351232 ∧ x.2.length * 8 ≤ 140737488351232) ∧ k l
theorem qRn(c:Cir)(dg:List Int)(hc:c.ok){k:Cir→List Int→Prop}(h:k c dg):lKc (lc 8 [qG.v (.int .i64 c.fx),qG.v (.int .i64 c.ad),qG.v (.int .i64 c.ins),qG.s false 7 c.nodes.length (cN c.nodes),qG.s false 1 c.gates.length (cI c.gates),qG.s false 2 c.looks.length (cL c.looks),qG.s false 2 c.eqs.length (cK c.eqs),qG.s false 1 dg.length (cI dg)]) k :=
 ⟨⟨c,dg,fun k hk j hj=>by
  have:k=0:=by omega
  subst this
  match j,hj with
  | 0,_=>rfl
  | 1,_=>rfl
  | 2,_=>rfl
  | 3,_=>rfl
  | 4,_=>rfl
  | 5,_=>rfl
  | 6,_=>rfl
  | 7,_=>rfl,hc,h⟩⟩
def jF(c:Cir)(x:List Int×List Int):Bool:=decide (1≤x.1.length∧x.1.length≤4∧x.2.length=x.1.length)&&!x.1.any (fun n=>!jI c n)&&!x.2.any (fun n=>!jI c n)
theorem qVs{p:List Int×List Int→Bool}{l:List (List Int×List Int)}{k:Nat}(h:k<l.length):zA p k (l.drop k)=if p (gL l k) then(k:Int) else zA p (k+1) (l.drop (k+1)):=by
 rw[List.drop_eq_getElem_cons h,zA,gL,List.getD_eq_getElem?_getD,List.getElem?_eq_getElem h]; rfl
end Go.Pl
namespace Go.Proofs.YtlmjdcbhpffanaaGreat
open Go.Sx Go.Pl
set_option linter.unusedVariables false
set_option maxRecDepth 100000
theorem zTw(b0 b1 b2 b3 b4:Bool)(c:Cir)(dg:List Int)(K:List It→St→Prop)(R:SV→List HO→Prop):W (xwp Tryz.prog X K49 [] 60 (qK Tryz.f107 [] [⟨[0,1,0,1,1,1],[27,26,25,4,3],[]⟩]) [] [.at []] ⟨qR 0 [.agg [.v (.int .i64 c.fx),.v (.int .i64 c.ad),.v (.int .i64 c.ins),.x 0 [],.x 1 [],.x 2 [],.x 3 [],.x 4 []]],[.ext b0 (.s false 7 c.nodes.length (cN c.nodes)),.ext b1 (.s false 1 c.gates.length (cI c.gates)),.ext b2 (.s false 2 c.looks.length (cL c.looks)),.ext b3 (.s false 2 c.eqs.length (cK c.eqs)),.ext b4 (.s false 1 dg.length (cI dg))]⟩ K R)=W (K [.at [0,1,0,1,1,1],.blk 0,.at [1,1,1,1]] (St.mk [(27,.v (qA 0)),(26,.v (qA (↑c.7.length:Int))),(25,.x 0 []),(4,.m 1),(3,.m 2)] [.ext b3 (.s false 2 c.7.length (cK c.7)),.mp false [IntKind.i64] [[(2:Int)],[(3:Int)],[(4:Int)]] (Mc.ints IntKind.i64 (jK [[(2:Int)],[(3:Int)]] (jK [[(2:Int)]] (jK [] [] [(2:Int)] c.1) [(3:Int)] c.2) [(4:Int)] c.3)),.mp true [IntKind.i64,IntKind.i64] [] Mc.unit])):=by kernel_rfl
theorem zSe(b:Bool)(l:List (Int×Int))(ms:List Int)(kl:List (List Int))(k M:Nat)(K:List It→St→Prop)(R:SV→List HO→Prop):W (xwp Tryz.prog X K49 [] 60 (qK Tryz.f107 [] [⟨[0,1,0,1,1,1],[27,26,25,4,3],[]⟩]) [] (.at [0,0,1,0,1,1,1]::.rnd [0,0,1,0,1,1,1] M::[.blk 0,.at [1,1,1,1]]) ⟨[(27,.v (.int .i64 (k:Int))),(26,.v (.int .i64 (l.length:Int))),(25,.x 0 []),(4,.m 1),(3,.m 2)],[.ext b (.s false 2 l.length (cK l)),.mp false [.i64] [[2],[3],[4]] (.ints .i64 ms),.mp true [.i64,.i64] kl .unit]⟩ K R)=W (bif decide ((↑k:Int)<(↑l.length:Int)) then(∀ M:Mem,(0:Int)≤(↑k:Int)∧(↑k:Int)<(↑l.length:Int))∧(∀ M:Mem,k<List.length l)∧(∀ M:Mem,0+2≤2)∧(∀ M:Mem,0≤0)∧bif !xJ [[(2:Int)],[(3:Int)],[(4:Int)]] [(gK l k).1] then R (.v (.bool false)) [] else bif xJ kl [(gK l k).1,(gK l k).2] then R (.v (.bool false)) [] else bif decide ((gK l k).2<(0:Int)) then R (.v (.bool false)) [] else bif decide (qGq [[(2:Int)],[(3:Int)],[(4:Int)]] ms [(gK l k).1]≤(gK l k).2) then R (.v (.bool false)) [] else K [.rnd [0,0,1,0,1,1,1] M,.blk 0,.at [1,1,1,1]] (St.mk [(27,.v (qA (IntKind.wrap .i64 ((↑k:Int)+(1:Int))))),(26,.v (qA (↑l.length:Int))),(25,.x 0 []),(4,.m 1),(3,.m 2)] [.ext b (.s false 2 l.length (cK l)),.mp false [IntKind.i64] [[(2:Int)],[(3:Int)],[(4:Int)]] (Mc.ints IntKind.i64 ms),.mp true [IntKind.i64,IntKind.i64] (yF kl [(gK l k).1,(gK l k).2]) Mc.unit]) else R (.v (.bool true)) []):=by kernel_rfl
theorem ikS(b:Bool)(c:Cir)(dg:List Int)(l:List (List Int×List Int))(K:List It→St→Prop)(R:SV→List HO→Prop):W (xwp Tryz.prog X K49 [(105,[]),(106,[]),(101,[])] 60 (qK Tryz.f130 [] [⟨[0,1,0,1],[8,7,0,1],[]⟩]) [] [.at []] ⟨qR 0 [.x 0 [],.fn (.func 105) [] [.x 1 []]],[.ext b (.s false 2 l.length (cL l)),.ext true (.s true 8 1 (fun _ j=>jX c dg j))]⟩ K R)=W (K [.at [0,1,0,1],.blk 0,.at [1,1]] (St.mk [(8,.v (qA 0)),(7,.v (qA (↑l.length:Int))),(0,.x 0 []),(1,SV.fn (Fn.func 105) [] [.x 1 []])] [.ext b (.s false 2 l.length (cL l)),.ext true (.s true 8 1 fun(x j:Nat)=>jX c dg j)])):=by kernel_rfl
theorem ikR(b:Bool)(c:Cir)(dg:List Int)(l:List (List Int×List Int))(k M:Nat)(K:List It→St→Prop)(R:SV→List HO→Prop):W (xwp Tryz.prog X K49 [(105,[]),(106,[]),(101,[])] 60 (qK Tryz.f130 [] [⟨[0,1,0,1],[8,7,0,1],[]⟩]) [] (.at [0,0,1,0,1]::.rnd [0,0,1,0,1] M::[.blk 0,.at [1,1]]) ⟨[(8,.v (.int .i64 (k:Int))),(7,.v (.int .i64 (l.length:Int))),(0,.x 0 []),(1,.fn (.func 105) [] [.x 1 []])],[.ext b (.s false 2 l.length (cL l)),.ext true (.s true 8 1 (fun _ j=>jX c dg j))]⟩ K R)=W (bif decide ((↑k:Int)<(↑l.length:Int)) then(∀ M:Mem,(0:Int)≤(↑k:Int)∧(↑k:Int)<(↑l.length:Int))∧(∀ M:Mem,k<List.length l)∧(∀ M:Mem,k<List.length l)∧(∀ M:Mem,k<List.length l)∧(∀ M:Mem,0<1)∧(∀ M:Mem,0<1)∧(∀ M:Mem,0<1)∧(∀ M:Mem,0<1)∧(∀ M:Mem,0<1)∧(∀ M:Mem,0<1)∧bif decide ((↑(List.length (gL l k).1):Int)<(1:Int)) then R (.v (qA (↑k:Int))) [] else bif decide ((4:Int)<(↑(List.length (gL l k).1):Int)) then R (.v (qA (↑k:Int))) [] else bif !(↑(List.length (gL l k).2):Int)==(↑(List.length (gL l k).1):Int) then R (.v (qA (↑k:Int))) [] else lI (List.length (gL l k).1) (cI (gL l k).1) fun(l_1:List Int)=>lKc (lc 8 [.v (qA c.1),.v (qA c.2),.v (qA c.3),.s false 7 c.4.length (cN c.4),.s false 1 c.5.length (cI c.5),.s false 2 c.6.length (cL c.6),.s false 2 c.7.length (cK c.7),.s false 1 dg.length (cI dg)]) fun(c_1:Cir) (dg_1:List Int)=>bif !decide ((0:Int)≤zA (fun(n:Int)=>!jI c_1 n) 0 l_1) then lI (List.length (gL l k).2) (cI (gL l k).2) fun(l_2:List Int)=>lKc (lc 8 [.v (qA c.1),.v (qA c.2),.v (qA c.3),.s false 7 c.4.length (cN c.4),.s false 1 c.5.length (cI c.5),.s false 2 c.6.length (cL c.6),.s false 2 c.7.length (cK c.7),.s false 1 dg.length (cI dg)]) fun(c_2:Cir) (dg_2:List Int)=>bif !!decide ((0:Int)≤zA (fun(n:Int)=>!jI c_2 n) 0 l_2) then R (.v (qA (↑k:Int))) [] else K [.rnd [0,0,1,0,1] M,.blk 0,.at [1,1]] (St.mk [(8,.v (qA (IntKind.wrap .i64 ((↑k:Int)+(1:Int))))),(7,.v (qA (↑l.length:Int))),(0,.x 0 []),(1,SV.fn (Fn.func 105) [] [.x 1 []])] [.ext b (.s false 2 l.length (cL l)),.ext true (.s true 8 1 fun(x j:Nat)=>jX c dg j)]) else R (.v (qA (↑k:Int))) [] else R (.v (qA (-1))) []):=by kernel_rfl
theorem qTn(b:Bool)(c:Cir)(l:List (Int×Int))(hl:l.length≤8796093022208)(ms:List Int)(hms:ms=[c.fx,c.ad,c.ins])(Q:SV→List HO→Prop):∀(d k:Nat) (kl:List (List Int)),k+d=l.length→kl=(l.take k).map prK→Q (.v (.bool (eqF c (l.take k) (l.drop k)))) [] →
  FOk Tryz.prog Tryz.f107 Q (.rnd [0,0,1,0,1,1,1] (d+1)::[.blk 0,.at [1,1,1,1]]) ⟨[(27,.v (.int .i64 (k:Int))),(26,.v (.int .i64 (l.length:Int))),(25,.x 0 []),(4,.m 1),(3,.m 2)],[.ext b (.s false 2 l.length (cK l)),.mp false [.i64] [[2],[3],[4]] (.ints .i64 ms),.mp true [.i64,.i64] kl .unit]⟩
 | 0,k,kl,hd,he,hq=>by
  refine FOk.rnd (qD hm 60 ((zSe b l ms kl k 0 _ _).mpr ⟨?_⟩))
  rw[qF,if_neg (by omega)]
  rw[show k=l.length by omega,List.drop_length,eqF] at hq
  exact hq
 | d+1,k,kl,hd,he,hq=>by
  have hk:k<l.length:=by omega
  refine FOk.rnd (qD hm 60 ((zSe b l ms kl k (d+1) _ _).mpr ⟨?_⟩))
  rw[qF,if_pos (by omega),qL _ (by omega),zKc,hms,zPd,he,qLo]
  rw[qYl hk,eqF] at hq
  simp only[qF,qN]
  refine aI (aI (aI (aI (?_))))
  have no:(okK c (gK l k)&&!decide (gK l k∈l.take k))=false→Q (.v (.bool false)) []:=fun h=>by
   rw[h,Bool.false_and] at hq
   exact hq
  refine qE (fun h1=>qE (fun h2=>?_) (fun h2=>qE (fun h3=>?_) (fun h3=>qE (fun h4=>?_) (fun h4=>?_)))) (fun h1=>?_)
  ·exact no (by rw[decide_eq_true h2]; simp)
  ·exact no (by rw[okK,decide_eq_false (by omega)]; rfl)
  ·exact no (by rw[okK,decide_eq_false (by omega)]; rfl)
  ·rw[okK,decide_eq_true (by omega),decide_eq_false h2,Bool.not_false,Bool.true_and,Bool.true_and,← qPp hk] at hq
   have h5:yF ((l.take k).map prK) [(gK l k).1,(gK l k).2]=(l.take (k+1)).map prK:=by
    rw[qSq _ _ (by rw[qLo,decide_eq_false h2]),qPp hk,List.map_append]; rfl
   rw[h5]
   have:=qTn b c l hl ms hms Q d (k+1) _ (by omega) rfl hq
   rw[hms] at this
   exact this
  ·exact no (by rw[okK,decide_eq_false (by omega)]; rfl)
theorem zWd:Tryz.f107.body.isSome=true:=by kernel_rfl
theorem zVm(c:Cir):Nat.ble [(.agg [.v (.int .i64 c.fx),.v (.int .i64 c.ad),.v (.int .i64 c.ins),.x 0 [],.x 1 [],.x 2 [],.x 3 [],.x 4 []]:SV)].length Tryz.f107.ntmps=true:=by kernel_rfl
theorem zNv(b0 b1 b2 b3 b4:Bool)(c:Cir)(dg:List Int)(hc:c.ok)(Q:SV→List HO→Prop)(hq:Q (.v (.bool (eqF c [] c.eqs))) []):qI Tryz.prog 107 [.agg [.v (.int .i64 c.fx),.v (.int .i64 c.ad),.v (.int .i64 c.ins),.x 0 [],.x 1 [],.x 2 [],.x 3 [],.x 4 []]] [.ext b0 (.s false 7 c.nodes.length (cN c.nodes)),.ext b1 (.s false 1 c.gates.length (cI c.gates)),.ext b2 (.s false 2 c.looks.length (cL c.looks)),.ext b3 (.s false 2 c.eqs.length (cK c.eqs)),.ext b4 (.s false 1 dg.length (cI dg))] Q:=by
 refine qJ Tryz.func107 zWd ?_ ?_
 ·exact zVm c
 have h1:=hc.e.2
 refine qD hm 60 ((zTw b0 b1 b2 b3 b4 c dg _ _).mpr ⟨?_⟩)
 exact FOk.loop (c.eqs.length+1) (by kernel_rfl) (qTn b3 c c.eqs (by omega) _ rfl Q c.eqs.length 0 [] (by omega) rfl hq)
noncomputable def zLl:List SV→List HO→Option ((SV→List HO→Prop)→Prop)
 | [.agg [.v (.int .i64 fx),.v (.int .i64 ad),.v (.int .i64 ins),.x 0 [],.x 1 [],.x 2 [],.x 3 [],.x 4 []]],[.ext _ (.s false 7 n0 c0),.ext _ (.s false 1 n1 c1),.ext _ (.s false 2 n2 c2),.ext _ (.s false 2 n3 c3),.ext _ (.s false 1 n4 c4)]=>some fun Q=>lH fx ad ins n0 n1 n2 n3 n4 c0 c1 c2 c3 c4 fun c dg=>Q (.v (.bool (eqF c [] c.eqs))) []
 | _,_=>none
theorem zGu(args:List SV)(h:List HO)(tr:(SV→List HO→Prop)→Prop)(Q:SV→List HO→Prop)(hc:zLl args h=some tr)(ht:tr Q):qI Tryz.prog 107 args h Q:=by
 unfold zLl at hc
 split at hc
 ·simp only[sI] at hc
  subst hc
  obtain⟨c,dg,rfl,rfl,rfl,⟨rfl,e0⟩,⟨rfl,e1⟩,⟨rfl,e2⟩,⟨rfl,e3⟩,⟨rfl,e4⟩,hk,hq⟩:=ht.h
  exact qI.ac (zNv _ _ _ _ _ c dg hk Q hq) ⟨⟨rfl,rfl,rfl,rfl,e0⟩,⟨rfl,rfl,rfl,rfl,e1⟩,⟨rfl,rfl,rfl,rfl,e2⟩,⟨rfl,rfl,rfl,rfl,e3⟩,⟨rfl,rfl,rfl,rfl,e4⟩,trivial⟩
 ·cases hc
theorem qZd(b:Bool)(c:Cir)(dg:List Int)(l:List (List Int×List Int))(hb:l.length*48≤140737488351232)(hl:∀ x∈l,x.1.length*8≤140737488351232∧x.2.length*8≤140737488351232)(hc:c.ok)(Q:SV→List HO→Prop):∀(d k:Nat),k+d=l.length→Q (.v (.int .i64 (zA (fun x=>!jF c x) k (l.drop k)))) [] →
  FOk Tryz.prog Tryz.f130 Q (.rnd [0,0,1,0,1] (d+1)::[.blk 0,.at [1,1]]) ⟨[(8,.v (.int .i64 (k:Int))),(7,.v (.int .i64 (l.length:Int))),(0,.x 0 []),(1,.fn (.func 105) [] [.x 1 []])],[.ext b (.s false 2 l.length (cL l)),.ext true (.s true 8 1 (fun _ j=>jX c dg j))]⟩
 | 0,k,hd,hq=>by
  refine FOk.rnd (qD hm 60 ((ikR b c dg l k 0 _ _).mpr ⟨?_⟩))
  rw[qF,if_neg (by omega)]
  rw[show k=l.length by omega,List.drop_length] at hq
  exact hq
 | d+1,k,hd,hq=>by
  have hk:k<l.length:=by omega
  obtain⟨l1,l2⟩:=hl _ (wY hk)
  refine FOk.rnd (qD hm 60 ((ikR b c dg l k (d+1) _ _).mpr ⟨?_⟩))
  rw[qF,if_pos (by omega),qL _ (by omega)]
  rw[qVs hk] at hq
  have go:jF c (gL l k)=true→FOk Tryz.prog Tryz.f130 Q (.rnd [0,0,1,0,1] (d+1)::[.blk 0,.at [1,1]]) ⟨[(8,.v (.int .i64 ((k+1:Nat):Int))),(7,.v (.int .i64 (l.length:Int))),(0,.x 0 []),(1,.fn (.func 105) [] [.x 1 []])],[.ext b (.s false 2 l.length (cL l)),.ext true (.s true 8 1 (fun _ j=>jX c dg j))]⟩:=fun h=>by
   rw[h] at hq
   exact qZd b c dg l hb hl hc Q d (k+1) (by omega) hq
  have no:jF c (gL l k)=false→Q (.v (.int .i64 (k:Int))) []:=fun h=>by
   rw[h] at hq
   exact hq
  simp only[qF,qN,qT]
  refine aI (aI (aI (aI (aI (aI (aI (aI (aI (aI (?_))))))))))
  refine qE (fun h=>no ?_) (fun h1=>qE (fun h=>no ?_) (fun h2=>qE (fun h3=>?_) (fun h3=>no ?_)))
  ·rw[jF,decide_eq_false (by omega)]; rfl
  ·rw[jF,decide_eq_false (by omega)]; rfl
  ·refine⟨⟨_,rfl,IsC.refl _ _ _,by omega,qRn c dg hc (qE (fun h4=>no ?_) (fun h4=>⟨⟨_,rfl,IsC.refl _ _ _,by omega,qRn c dg hc (qE (fun h5=>no ?_) (fun h5=>go ?_))⟩⟩))⟩⟩
   ·rw[jF,← yC (fun n=>!jI c n) (gL l k).1 0,decide_eq_true h4]; simp
   ·rw[jF,← yC (fun n=>!jI c n) (gL l k).2 0,decide_eq_true h5]; simp
   ·rw[jF,← yC (fun n=>!jI c n) (gL l k).1 0,← yC (fun n=>!jI c n) (gL l k).2 0,decide_eq_false h4,decide_eq_false h5,decide_eq_true (by omega)]; rfl
  ·rw[jF,decide_eq_false (by omega)]; rfl
theorem b81:Tryz.f130.body.isSome=true:=by kernel_rfl
theorem n81:Nat.ble [SV.x 0 [],.fn (.func 105) [] [.x 1 []]].length Tryz.f130.ntmps=true:=by kernel_rfl
theorem zQy(b:Bool)(c:Cir)(dg:List Int)(l:List (List Int×List Int))(hb:l.length*48≤140737488351232)(hl:∀ x∈l,x.1.length*8≤140737488351232∧x.2.length*8≤140737488351232)(hc:c.ok)(Q:SV→List HO→Prop)(hq:Q (.v (.int .i64 (zA (fun x=>!jF c x) 0 l))) []):qI Tryz.prog 130 [.x 0 [],.fn (.func 105) [] [.x 1 []]] [.ext b (.s false 2 l.length (cL l)),.ext true (.s true 8 1 (fun _ j=>jX c dg j))] Q:=by
 refine qJ Tryz.func130 b81 ?_ ?_
 ·exact n81
 refine qD hm 60 ((ikS b c dg l _ _).mpr ⟨?_⟩)
 exact FOk.loop (l.length+1) (by kernel_rfl) (qZd b c dg l hb hl hc Q l.length 0 (by omega) hq)
noncomputable def g81:List SV→List HO→Option ((SV→List HO→Prop)→Prop)
 | [.x 0 [],.fn (.func 105) [] [.x 1 []]],[.ext _ (.s false 2 n c),.ext true (.s true 8 1 ck)]=>some fun Q=>lLk n c fun l=>lKc ck fun c dg=>Q (.v (.int .i64 (zA (fun x=>!jF c x) 0 l))) []
 | _,_=>none
theorem zLa(args:List SV)(h:List HO)(tr:(SV→List HO→Prop)→Prop)(Q:SV→List HO→Prop)(hc:g81 args h=some tr)(ht:tr Q):qI Tryz.prog 130 args h Q:=by
 unfold g81 at hc
 split at hc
 ·simp only[sI] at hc
  subst hc
  obtain⟨l,rfl,he,hb,hl,hk⟩:=ht.h
  obtain⟨c,dg,e1,hc,hq⟩:=hk.h
  exact qI.ac (zQy _ c dg l hb hl hc Q hq) ⟨⟨rfl,rfl,rfl,rfl,he⟩,⟨rfl,rfl,rfl,rfl,e1⟩,trivial⟩
 ·cases hc
noncomputable def K50:Con Tryz.prog:=(K49.add 107 zLl zGu).add 130 g81 zLa
end Go.Proofs.YtlmjdcbhpffanaaGreat
/- The checker: the degree. -/
namespace Go.Pl
open Go.Sx
def mxI(a b:Int):Int:=if a<b then b else a
def qAq(c:Cir):Int:=if 0<c.looks.length+c.eqs.length then 4 else 3
def qEe(c:Cir)(dg:List Int):Int:=c.looks.foldl (fun d l=>mxI d (2+gtN dg l.1+gtN dg l.2)) (mxI (qAq c) (gtN dg c.gates+1))
structure qBo (c : Cir) (dg : List Int) : Prop where
  g : ∀ g ∈ c.gates, 0 ≤ g ∧ g < (dg.length : Int)
  l : ∀ x ∈ c.looks, (∀ g ∈ x.1, 0 ≤ g ∧ g < (dg.length : Int)) ∧ ∀ g ∈ x.2, 0 ≤ g ∧ g < (dg.length : Int)
  d : ∀ y ∈ dg, 0 ≤ y ∧ y ≤ 1000
theorem zBw{dg:List Int}(h:∀ y∈dg,0≤y∧y≤1000)(k:Nat):0≤gI dg k∧gI dg k≤1000:=by
 by_cases hk:k<dg.length
 ·exact h _ (xI hk)
 ·rw[gI,List.getD_eq_getElem?_getD,List.getElem?_eq_none (by omega)]
  exact⟨Int.le_refl _,by decide⟩
theorem qGp{dg:List Int}(h:∀ y∈dg,0≤y∧y≤1000)(l:List Int):0≤gtN dg l∧gtN dg l≤1000:=by
 have:∀(l:List Int) (m:Int),0≤m∧m≤1000→0≤l.foldl (fun m g=>if m<gI dg g.toNat then gI dg g.toNat else m) m∧l.foldl (fun m g=>if m<gI dg g.toNat then gI dg g.toNat else m) m≤1000:=by
  intro l
  induction l with
  | nil=>intro m hm; exact hm
  | cons g r ih =>
   intro m hm
   rw[List.foldl_cons]
   refine ih _ ?_
   split
   ·exact zBw h _
   ·exact hm
 exact this l 0 (by omega)
theorem qJb{α:Type}(f:α→List Int×List Int→α)(a:α){l:List (List Int×List Int)}{k:Nat}(h:k<l.length):(l.take (k+1)).foldl f a=f ((l.take k).foldl f a) (gL l k):=by
 rw[List.take_add_one,List.getElem?_eq_getElem h,List.foldl_append,gL,List.getD_eq_getElem?_getD,List.getElem?_eq_getElem h]; rfl
end Go.Pl
namespace Go.Proofs.YtlmjdcbhpffanaaGreat
open Go.Sx Go.Pl
set_option linter.unusedVariables false
set_option maxRecDepth 100000
theorem zQr(b0 b1 b4:Bool)(c:Cir)(dg:List Int)(m:Int)(k M:Nat)(K:List It→St→Prop)(R:SV→List HO→Prop):W (xwp Tryz.prog X K50 [] 60 (qK Tryz.f108 [] [⟨[0,1,0,1,1,1,1],[28,27,26,3,1],[]⟩]) [] (.at [0,0,1,0,1,1,1,1]::.rnd [0,0,1,0,1,1,1,1] M::[.blk 0,.at [1,1,1,1,1]]) ⟨[(28,.v (.int .i64 (k:Int))),(27,.v (.int .i64 (c.looks.length:Int))),(26,.x 0 []),(3,.v (.int .i64 m)),(1,.p 1 0)],[.ext false (.s false 2 c.looks.length (cL c.looks)),.cells [.v (.int .i64 c.fx),.v (.int .i64 c.ad),.v (.int .i64 c.ins),.x 2 [],.x 3 [],.x 0 [],.x 4 [],.x 5 []] 171,.ext b0 (.s false 7 c.nodes.length (cN c.nodes)),.ext b1 (.s false 1 c.gates.length (cI c.gates)),.ext false (.s false 2 c.eqs.length (cK c.eqs)),.ext b4 (.s false 1 dg.length (cI dg))]⟩ K R)=W (bif decide ((↑k:Int)<(↑c.6.length:Int)) then(∀ M:Mem,(0:Int)≤(↑k:Int)∧(↑k:Int)<(↑c.6.length:Int))∧(∀ M:Mem,k<List.length c.6)∧(∀ M:Mem,0+2≤2)∧(∀ M:Mem,k<List.length c.6)∧lH c.1 c.2 c.3 c.4.length c.5.length c.6.length c.7.length dg.length (cN c.4) (cI c.5) (cL c.6) (cK c.7) (cI dg) fun(c_1:Cir) (dg_1:List Int)=>lG dg_1.length (List.length (gL c.6 k).1) (cI (gL c.6 k).1) fun(l:List Int)=>(∀ M:Mem,k<List.length c.6)∧lH c.1 c.2 c.3 c.4.length c.5.length c.6.length c.7.length dg.length (cN c.4) (cI c.5) (cL c.6) (cK c.7) (cI dg) fun(c_2:Cir) (dg_2:List Int)=>lG dg_2.length (List.length (gL c.6 k).2) (cI (gL c.6 k).2) fun(l_1:List Int)=>K [.rnd [0,0,1,0,1,1,1,1] M,.blk 0,.at [1,1,1,1,1]] (St.mk [(28,.v (qA (IntKind.wrap .i64 ((↑k:Int)+(1:Int))))),(27,.v (qA (↑c.6.length:Int))),(26,.x 0 []),(3,.v (qA (if m<IntKind.wrap .i64 (IntKind.wrap .i64 ((2:Int)+gtN dg_1 l)+gtN dg_2 l_1) then IntKind.wrap .i64 (IntKind.wrap .i64 ((2:Int)+gtN dg_1 l)+gtN dg_2 l_1) else m))),(1,.p 1 0)] [.ext false (.s false 2 c.6.length (cL c.6)),.cells [.v (qA c.1),.v (qA c.2),.v (qA c.3),.x 2 [],.x 3 [],.x 0 [],.x 4 [],.x 5 []] 171,.ext b0 (.s false 7 c.4.length (cN c.4)),.ext b1 (.s false 1 c.5.length (cI c.5)),.ext false (.s false 2 c.7.length (cK c.7)),.ext b4 (.s false 1 dg.length (cI dg))]) else R (.v (qA m)) []):=by kernel_rfl
theorem zWl(b0 b1 b4:Bool)(c:Cir)(dg:List Int)(K:List It→St→Prop)(R:SV→List HO→Prop):W (xwp Tryz.prog X K50 [] 60 (qK Tryz.f108 [] [⟨[0,1,0,1,1,1,1],[28,27,26,3,1],[]⟩]) [] [.at []] ⟨qR 0 [.agg [.v (.int .i64 c.fx),.v (.int .i64 c.ad),.v (.int .i64 c.ins),.x 0 [],.x 1 [],.x 2 [],.x 3 [],.x 4 []]],[.ext b0 (.s false 7 c.nodes.length (cN c.nodes)),.ext b1 (.s false 1 c.gates.length (cI c.gates)),.ext false (.s false 2 c.looks.length (cL c.looks)),.ext false (.s false 2 c.eqs.length (cK c.eqs)),.ext b4 (.s false 1 dg.length (cI dg))]⟩ K R)=W (bif decide ((0:Int)<IntKind.wrap .i64 ((↑c.6.length:Int)+(↑c.7.length:Int))) then lH c.1 c.2 c.3 c.4.length c.5.length c.6.length c.7.length dg.length (cN c.4) (cI c.5) (cL c.6) (cK c.7) (cI dg) fun(c_1:Cir) (dg_1:List Int)=>lG dg_1.length c.5.length (cI c.5) fun(l:List Int)=>K [.at [0,1,0,1,1,1,1],.blk 0,.at [1,1,1,1,1]] (St.mk [(28,.v (qA 0)),(27,.v (qA (↑c.6.length:Int))),(26,.x 0 []),(3,.v (qA (if(4:Int)<IntKind.wrap .i64 (gtN dg_1 l+(1:Int)) then IntKind.wrap .i64 (gtN dg_1 l+(1:Int)) else(4:Int)))),(1,.p 1 0)] [.ext false (.s false 2 c.6.length (cL c.6)),.cells [.v (qA c.1),.v (qA c.2),.v (qA c.3),.x 2 [],.x 3 [],.x 0 [],.x 4 [],.x 5 []] 171,.ext b0 (.s false 7 c.4.length (cN c.4)),.ext b1 (.s false 1 c.5.length (cI c.5)),.ext false (.s false 2 c.7.length (cK c.7)),.ext b4 (.s false 1 dg.length (cI dg))]) else lH c.1 c.2 c.3 c.4.length c.5.length c.6.length c.7.length dg.length (cN c.4) (cI c.5) (cL c.6) (cK c.7) (cI dg) fun(c_1:Cir) (dg_1:List Int)=>lG dg_1.length c.5.length (cI c.5) fun(l:List Int)=>K [.at [0,1,0,1,1,1,1],.blk 0,.at [1,1,1,1,1]] (St.mk [(28,.v (qA 0)),(27,.v (qA (↑c.6.length:Int))),(26,.x 0 []),(3,.v (qA (if(3:Int)<IntKind.wrap .i64 (gtN dg_1 l+(1:Int)) then IntKind.wrap .i64 (gtN dg_1 l+(1:Int)) else(3:Int)))),(1,.p 1 0)] [.ext false (.s false 2 c.6.length (cL c.6)),.cells [.v (qA c.1),.v (qA c.2),.v (qA c.3),.x 2 [],.x 3 [],.x 0 [],.x 4 [],.x 5 []] 171,.ext b0 (.s false 7 c.4.length (cN c.4)),.ext b1 (.s false 1 c.5.length (cI c.5)),.ext false (.s false 2 c.7.length (cK c.7)),.ext b4 (.s false 1 dg.length (cI dg))])):=by kernel_rfl
theorem qKj(b0 b1 b4:Bool)(c:Cir)(dg:List Int)(hc:c.ok)(ho:qBo c dg)(Q:SV→List HO→Prop)(hq:Q (.v (.int .i64 (qEe c dg))) []):∀(d k:Nat) (m:Int),k+d=c.looks.length→m=(c.looks.take k).foldl (fun d l=>mxI d (2+gtN dg l.1+gtN dg l.2)) (mxI (qAq c) (gtN dg c.gates+1)) →
  FOk Tryz.prog Tryz.f108 Q (.rnd [0,0,1,0,1,1,1,1] (d+1)::[.blk 0,.at [1,1,1,1,1]]) ⟨[(28,.v (.int .i64 (k:Int))),(27,.v (.int .i64 (c.looks.length:Int))),(26,.x 0 []),(3,.v (.int .i64 m)),(1,.p 1 0)],[.ext false (.s false 2 c.looks.length (cL c.looks)),.cells [.v (.int .i64 c.fx),.v (.int .i64 c.ad),.v (.int .i64 c.ins),.x 2 [],.x 3 [],.x 0 [],.x 4 [],.x 5 []] 171,.ext b0 (.s false 7 c.nodes.length (cN c.nodes)),.ext b1 (.s false 1 c.gates.length (cI c.gates)),.ext false (.s false 2 c.eqs.length (cK c.eqs)),.ext b4 (.s false 1 dg.length (cI dg))]⟩
 | 0,k,m,hd,he=>by
  refine FOk.rnd (qD hm 60 ((zQr b0 b1 b4 c dg m k 0 _ _).mpr ⟨?_⟩))
  rw[qF,if_neg (by omega)]
  rw[show k=c.looks.length by omega,List.take_length] at he
  rw[he]
  exact hq
 | d+1,k,m,hd,he=>by
  have hk:k<c.looks.length:=by omega
  have h1:=hc.l.2
  obtain⟨⟨_,g1⟩,⟨_,g2⟩⟩:=hc.l.1 _ (wY hk)
  obtain⟨o1,o2⟩:=ho.l _ (wY hk)
  have t1:=qGp ho.d (gL c.looks k).1
  have t2:=qGp ho.d (gL c.looks k).2
  refine FOk.rnd (qD hm 60 ((zQr b0 b1 b4 c dg m k (d+1) _ _).mpr ⟨?_⟩))
  rw[qF,if_pos (by omega),qL _ (by omega)]
  refine aI (aI (aI (aI (qHf c dg hc ⟨⟨_,rfl,IsC.refl _ _ _,by omega,o1,And.intro (fun _=>hk) (qHf c dg hc ⟨⟨_,rfl,IsC.refl _ _ _,by omega,o2,?_⟩⟩)⟩⟩))))
  rw[jB (2+gtN dg (gL c.looks k).1) (by omega),jB (2+gtN dg (gL c.looks k).1+gtN dg (gL c.looks k).2) (by omega)]
  exact qKj b0 b1 b4 c dg hc ho Q hq d (k+1) _ (by omega) (by rw[qJb _ _ hk,← he]; rfl)
theorem zVk:Tryz.f108.body.isSome=true:=by kernel_rfl
theorem zVf(c:Cir):Nat.ble [(.agg [.v (.int .i64 c.fx),.v (.int .i64 c.ad),.v (.int .i64 c.ins),.x 0 [],.x 1 [],.x 2 [],.x 3 [],.x 4 []]:SV)].length Tryz.f108.ntmps=true:=by kernel_rfl
theorem zKa(b0 b1 b4:Bool)(c:Cir)(dg:List Int)(hc:c.ok)(ho:qBo c dg)(Q:SV→List HO→Prop)(hq:Q (.v (.int .i64 (qEe c dg))) []):qI Tryz.prog 108 [.agg [.v (.int .i64 c.fx),.v (.int .i64 c.ad),.v (.int .i64 c.ins),.x 0 [],.x 1 [],.x 2 [],.x 3 [],.x 4 []]] [.ext b0 (.s false 7 c.nodes.length (cN c.nodes)),.ext b1 (.s false 1 c.gates.length (cI c.gates)),.ext false (.s false 2 c.looks.length (cL c.looks)),.ext false (.s false 2 c.eqs.length (cK c.eqs)),.ext b4 (.s false 1 dg.length (cI dg))] Q:=by
 refine qJ Tryz.func108 zVk ?_ ?_
 ·exact zVf c
 have h1:=hc.e.2
 have h2:=hc.l.2
 have h3:=hc.g.2
 have t:=qGp ho.d c.gates
 refine qD hm 60 ((zWl b0 b1 b4 c dg _ _).mpr ⟨?_⟩)
 rw[qF,jB ((c.looks.length:Int)+(c.eqs.length:Int)) (by omega)]
 refine qE (fun h=>?_) (fun h=>?_)
 ·refine qHf c dg hc ⟨⟨_,rfl,IsC.refl _ _ _,by omega,ho.g,?_⟩⟩
  rw[jB (gtN dg c.gates+1) (by omega)]
  exact FOk.loop (c.looks.length+1) (by kernel_rfl) (qKj b0 b1 b4 c dg hc ho Q hq c.looks.length 0 _ (by omega) (by rw[show qAq c=4 by rw[qAq,if_pos (by omega)]]; rfl))
 ·refine qHf c dg hc ⟨⟨_,rfl,IsC.refl _ _ _,by omega,ho.g,?_⟩⟩
  rw[jB (gtN dg c.gates+1) (by omega)]
  exact FOk.loop (c.looks.length+1) (by kernel_rfl) (qKj b0 b1 b4 c dg hc ho Q hq c.looks.length 0 _ (by omega) (by rw[show qAq c=3 by rw[qAq,if_neg (by omega)]]; rfl))
noncomputable def zMx:List SV→List HO→Option ((SV→List HO→Prop)→Prop)
 | [.agg [.v (.int .i64 fx),.v (.int .i64 ad),.v (.int .i64 ins),.x 0 [],.x 1 [],.x 2 [],.x 3 [],.x 4 []]],[.ext _ (.s false 7 n0 c0),.ext _ (.s false 1 n1 c1),.ext false (.s false 2 n2 c2),.ext false (.s false 2 n3 c3),.ext _ (.s false 1 n4 c4)]=>some fun Q=>lH fx ad ins n0 n1 n2 n3 n4 c0 c1 c2 c3 c4 fun c dg=>qBo c dg∧Q (.v (.int .i64 (qEe c dg))) []
 | _,_=>none
theorem zGx(args:List SV)(h:List HO)(tr:(SV→List HO→Prop)→Prop)(Q:SV→List HO→Prop)(hc:zMx args h=some tr)(ht:tr Q):qI Tryz.prog 108 args h Q:=by
 unfold zMx at hc
 split at hc
 ·simp only[sI] at hc
  subst hc
  obtain⟨c,dg,rfl,rfl,rfl,⟨rfl,e0⟩,⟨rfl,e1⟩,⟨rfl,e2⟩,⟨rfl,e3⟩,⟨rfl,e4⟩,hk,hq⟩:=ht.h
  exact qI.ac (zKa _ _ _ c dg hk hq.1 Q hq.2) ⟨⟨rfl,rfl,rfl,rfl,e0⟩,⟨rfl,rfl,rfl,rfl,e1⟩,⟨rfl,rfl,rfl,rfl,e2⟩,⟨rfl,rfl,rfl,rfl,e3⟩,⟨rfl,rfl,rfl,rfl,e4⟩,trivial⟩
 ·cases hc
noncomputable def K51:Con Tryz.prog:=K50.add 108 zMx zGx
end Go.Proofs.YtlmjdcbhpffanaaGreat
/- circuit.Degree. -/
namespace Go.Pl
open Go.Sx
def jU(c:Cir):Bool:=qJl c&&!c.gates.any (fun n=>!yL c n)&&!c.looks.any (fun x=>!jF c x)&&eqF c [] c.eqs&&decide (qEe c (qP c.nodes)≤8)
def zY(c:Cir):Int:=if wN c.nodes c.fx c.ad c.ins=0 then(if jU c then 0 else 120) else wN c.nodes c.fx c.ad c.ins
def qXg(c:Cir):Int:=if zY c=0 then qEe c (qP c.nodes) else 0
theorem qOp:∀(l:List Nd) (out:List Int),(∀ z∈out,0≤z∧z≤1000)→∀ z∈qCo out l,0≤z∧z≤1000
 | [],out,h=>h
 | x::r,out,h=>by
  rw[qCo]
  refine qOp r _ fun z hz=>?_
  rcases List.mem_append.1 hz with hz | hz
  ·exact h z hz
  ·rw[List.mem_singleton] at hz
   rw[hz]
   exact qGk h x
theorem qVc(l:List Nd):∀ z∈qP l,0≤z∧z≤1000:=by
 rw[qP]
 split
 ·exact qOp l [] (fun z hz=>by cases hz)
 ·intro z hz; cases hz
theorem qHu{l:List Nd}{f a i:Int}(h:wN l f a i=0):l.length≤64∧zK 0 l=true:=by
 rw[wN] at h
 split at h
 ·cases h
 ·rename_i hh
  refine⟨by omega,?_⟩
  cases ho:zK 0 l with
  | true=>rfl
  | false=>exact absurd (.inr (.inl ho)) hh
theorem qHp{l:List Nd}(h:zK 0 l=true):(qP l).length=l.length:=by
 rw[qP,if_pos h,qHb]; simp
theorem qBq{α:Type}{p:α→Bool}{l:List α}(h:l.any (fun n=>!p n)=false):∀ x∈l,p x=true:=by
 intro x hx
 have:=List.any_eq_false.1 h x hx
 simpa using this
theorem qMx{c:Cir}{x:Int}(h:jI c x=true):0≤x∧x<(c.nodes.length:Int):=by
 rw[jI,Bool.and_eq_true,decide_eq_true_eq] at h
 exact h.1
theorem qBn{c:Cir}{x:List Int×List Int}(h:jF c x=true):(∀ g∈x.1,jI c g=true)∧(∀ g∈x.2,jI c g=true)∧1≤x.1.length∧x.1.length≤4∧x.2.length=x.1.length:=by
 simp only[jF,Bool.and_eq_true,Bool.not_eq_true',decide_eq_true_eq] at h
 obtain⟨⟨h1,h2⟩,h3⟩:=h
 exact⟨qBq h2,qBq h3,h1⟩
theorem qVa{c:Cir}(h0:wN c.nodes c.fx c.ad c.ins=0)(h1:c.gates.any (fun n=>!yL c n)=false)(h2:c.looks.any (fun x=>!jF c x)=false):qBo c (qP c.nodes) where
 g:=by
  intro g hg
  have:=qBq h1 g hg
  rw[yL,decide_eq_true_eq] at this
  rw[qHp (qHu h0).2]
  exact this
 l:=by
  intro x hx
  obtain⟨p1,p2,_⟩:=qBn (qBq h2 x hx)
  rw[qHp (qHu h0).2]
  exact⟨fun g hg=>qMx (p1 g hg),fun g hg=>qMx (p2 g hg)⟩
 d:=qVc c.nodes
theorem qUy{c:Cir}(h0:wN c.nodes c.fx c.ad c.ins=0)(h:jU c=false):zY c=120∧qXg c=0:=by
 have:zY c=120:=by rw[zY,if_pos h0,h]; rfl
 exact⟨this,by rw[qXg,this]; rfl⟩
theorem qOc{c:Cir}(h0:wN c.nodes c.fx c.ad c.ins=0)(h:jU c=true):zY c=0∧qXg c=qEe c (qP c.nodes):=by
 have:zY c=0:=by rw[zY,if_pos h0,h]; rfl
 exact⟨this,by rw[qXg,this]; rfl⟩
end Go.Pl
namespace Go.Proofs.YtlmjdcbhpffanaaGreat
open Go.Sx Go.Pl
set_option linter.unusedVariables false
set_option maxRecDepth 100000
theorem pdS(b0 b1:Bool)(c:Cir)(K:List It→St→Prop)(R:SV→List HO→Prop):W (xwp Tryz.prog X K51 [(101,[]),(104,[])] 60 (qK Tryz.f66 [] []) [] [.at []] ⟨qR 0 [.agg [.v (.int .i64 c.fx),.v (.int .i64 c.ad),.v (.int .i64 c.ins),.x 0 [],.x 1 [],.x 2 [],.x 3 []]],[.ext b0 (.s false 7 c.nodes.length (cN c.nodes)),.ext b1 (.s false 1 c.gates.length (cI c.gates)),.ext false (.s false 2 c.looks.length (cL c.looks)),.ext false (.s false 2 c.eqs.length (cK c.eqs))]⟩ K R)=W (∃(l:List Nd),List.length c.4=List.length l∧IsC c.4.length 7 (cN c.4) (cN l)∧List.length l≤4398046511104∧bif !wN l c.1 c.2 c.3==(0:Int) then R (.tup [.v (qA 0),.v (qA (wN l c.1 c.2 c.3))]) [] else(∃(l:List Nd),List.length c.4=List.length l∧IsC c.4.length 7 (cN c.4) (cN l)∧List.length l≤4398046511104∧(∀ M:Mem,0+8≤8)∧lH c.1 c.2 c.3 c.4.length c.5.length c.6.length c.7.length (List.length (qP l)) (cN c.4) (cI c.5) (cL c.6) (cK c.7) (cI (qP l)) fun(c_1:Cir) (dg:List Int)=>bif !qJl c_1 then R (.tup [.v (qA 0),.v (qA 120)]) [] else lI c.5.length (cI c.5) fun(l_1:List Int)=>lKc (lc 8 [.v (qA c.1),.v (qA c.2),.v (qA c.3),.s false 7 c.4.length (cN c.4),.s false 1 c.5.length (cI c.5),.s false 2 c.6.length (cL c.6),.s false 2 c.7.length (cK c.7),.s false 1 (List.length (qP l)) (cI (qP l))]) fun(c_2:Cir) (dg:List Int)=>bif decide ((0:Int)≤zA (fun(n:Int)=>!yL c_2 n) 0 l_1) then R (.tup [.v (qA 0),.v (qA 120)]) [] else lLk c.6.length (cL c.6) fun(l_2:List (List Int×List Int))=>lKc (lc 8 [.v (qA c.1),.v (qA c.2),.v (qA c.3),.s false 7 c.4.length (cN c.4),.s false 1 c.5.length (cI c.5),.s false 2 c.6.length (cL c.6),.s false 2 c.7.length (cK c.7),.s false 1 (List.length (qP l)) (cI (qP l))]) fun(c_3:Cir) (dg:List Int)=>bif decide ((0:Int)≤zA (fun(x:List Int×List Int)=>!jF c_3 x) 0 l_2) then R (.tup [.v (qA 0),.v (qA 120)]) [] else lH c.1 c.2 c.3 c.4.length c.5.length c.6.length c.7.length (List.length (qP l)) (cN c.4) (cI c.5) (cL c.6) (cK c.7) (cI (qP l)) fun(c_4:Cir) (dg:List Int)=>bif !eqF c_4 [] c_4.7 then R (.tup [.v (qA 0),.v (qA 120)]) [] else lH c.1 c.2 c.3 c.4.length c.5.length c.6.length c.7.length (List.length (qP l)) (cN c.4) (cI c.5) (cL c.6) (cK c.7) (cI (qP l)) fun(c_5:Cir) (dg:List Int)=>qBo c_5 dg∧bif decide ((8:Int)<qEe c_5 dg) then R (.tup [.v (qA 0),.v (qA 120)]) [] else lH c.1 c.2 c.3 c.4.length c.5.length c.6.length c.7.length (List.length (qP l)) (cN c.4) (cI c.5) (cL c.6) (cK c.7) (cI (qP l)) fun(c:Cir) (dg:List Int)=>qBo c dg∧R (.tup [.v (qA (qEe c dg)),.v (qA 0)]) [])∧∃(l:List Nd),List.length c.4=List.length l∧IsC c.4.length 7 (cN c.4) (cN l)∧List.length l≤4398046511104∧(∀ M:Mem,0+8≤8)∧lH c.1 c.2 c.3 c.4.length c.5.length c.6.length c.7.length (List.length (qP l)) (cN c.4) (cI c.5) (cL c.6) (cK c.7) (cI (qP l)) fun(c_1:Cir) (dg:List Int)=>bif !qJl c_1 then R (.tup [.v (qA 0),.v (qA 120)]) [] else lI c.5.length (cI c.5) fun(l_1:List Int)=>lKc (lc 8 [.v (qA c.1),.v (qA c.2),.v (qA c.3),.s false 7 c.4.length (cN c.4),.s false 1 c.5.length (cI c.5),.s false 2 c.6.length (cL c.6),.s false 2 c.7.length (cK c.7),.s false 1 (List.length (qP l)) (cI (qP l))]) fun(c_2:Cir) (dg:List Int)=>bif decide ((0:Int)≤zA (fun(n:Int)=>!yL c_2 n) 0 l_1) then R (.tup [.v (qA 0),.v (qA 120)]) [] else lLk c.6.length (cL c.6) fun(l_2:List (List Int×List Int))=>lKc (lc 8 [.v (qA c.1),.v (qA c.2),.v (qA c.3),.s false 7 c.4.length (cN c.4),.s false 1 c.5.length (cI c.5),.s false 2 c.6.length (cL c.6),.s false 2 c.7.length (cK c.7),.s false 1 (List.length (qP l)) (cI (qP l))]) fun(c_3:Cir) (dg:List Int)=>bif decide ((0:Int)≤zA (fun(x:List Int×List Int)=>!jF c_3 x) 0 l_2) then R (.tup [.v (qA 0),.v (qA 120)]) [] else lH c.1 c.2 c.3 c.4.length c.5.length c.6.length c.7.length (List.length (qP l)) (cN c.4) (cI c.5) (cL c.6) (cK c.7) (cI (qP l)) fun(c_4:Cir) (dg:List Int)=>bif !eqF c_4 [] c_4.7 then R (.tup [.v (qA 0),.v (qA 120)]) [] else lH c.1 c.2 c.3 c.4.length c.5.length c.6.length c.7.length (List.length (qP l)) (cN c.4) (cI c.5) (cL c.6) (cK c.7) (cI (qP l)) fun(c_5:Cir) (dg:List Int)=>qBo c_5 dg∧bif decide ((8:Int)<qEe c_5 dg) then R (.tup [.v (qA 0),.v (qA 120)]) [] else lH c.1 c.2 c.3 c.4.length c.5.length c.6.length c.7.length (List.length (qP l)) (cN c.4) (cI c.5) (cL c.6) (cK c.7) (cI (qP l)) fun(c:Cir) (dg:List Int)=>qBo c dg∧R (.tup [.v (qA (qEe c dg)),.v (qA 0)]) []):=by kernel_rfl
theorem bPd:Tryz.f66.body.isSome=true:=by kernel_rfl
theorem nPd(c:Cir):Nat.ble [(.agg [.v (.int .i64 c.fx),.v (.int .i64 c.ad),.v (.int .i64 c.ins),.x 0 [],.x 1 [],.x 2 [],.x 3 []]:SV)].length Tryz.f66.ntmps=true:=by kernel_rfl
theorem zRa(b0 b1:Bool)(c:Cir)(hc:c.ok)(Q:SV→List HO→Prop)(hq:Q (.tup [.v (.int .i64 (qXg c)),.v (.int .i64 (zY c))]) []):qI Tryz.prog 66 [.agg [.v (.int .i64 c.fx),.v (.int .i64 c.ad),.v (.int .i64 c.ins),.x 0 [],.x 1 [],.x 2 [],.x 3 []]] [.ext b0 (.s false 7 c.nodes.length (cN c.nodes)),.ext b1 (.s false 1 c.gates.length (cI c.gates)),.ext false (.s false 2 c.looks.length (cL c.looks)),.ext false (.s false 2 c.eqs.length (cK c.eqs))] Q:=by
 refine qJ Tryz.func66 bPd ?_ ?_
 ·exact nPd c
 have h1:=hc.n.2
 have h2:=hc.g.2
 have h3:=hc.l.2
 refine qD hm 60 ((pdS b0 b1 c _ _).mpr ⟨?_⟩)
 refine⟨c.nodes,rfl,IsC.refl _ _ _,by omega,?_⟩
 simp only[qF,qN,qT]
 refine qE (fun h0=>?_) (fun h0=>?_)
 ·have no:jU c=false→Q (.tup [.v (.int .i64 0),.v (.int .i64 120)]) []:=fun h=>by
   obtain⟨e1,e2⟩:=qUy h0 h
   rw[e1,e2] at hq
   exact hq
  have yes:jU c=true→Q (.tup [.v (.int .i64 (qEe c (qP c.nodes))),.v (.int .i64 0)]) []:=fun h=>by
   obtain⟨e1,e2⟩:=qOc h0 h
   rw[e1,e2] at hq
   exact hq
  have lk:∀ x∈c.looks,x.1.length*8≤140737488351232∧x.2.length*8≤140737488351232:=fun x hx=>⟨(hc.l.1 x hx).1.2,(hc.l.1 x hx).2.2⟩
  refine And.intro ?_ ?_
  all_goals
   refine⟨c.nodes,rfl,IsC.refl _ _ _,by omega,aI (qHf c _ hc (qM (fun a1=>?_) (fun a1=>no ?_)))⟩
   ·refine⟨⟨c.gates,rfl,IsC.refl _ _ _,by omega,qRn c _ hc (qE (fun a2=>no ?_) (fun a2=>?_))⟩⟩
    ·rw[jU,← yC (fun n=>!yL c n) c.gates 0,decide_eq_true a2]; simp
    ·have a2':c.gates.any (fun n=>!yL c n)=false:=by rw[← yC _ c.gates 0,decide_eq_false a2]
     refine⟨⟨c.looks,rfl,IsC.refl _ _ _,h3,lk,qRn c _ hc (qE (fun a3=>no ?_) (fun a3=>?_))⟩⟩
     ·rw[jU,← yC (fun x=>!jF c x) c.looks 0,decide_eq_true a3]; simp
     ·have a3':c.looks.any (fun x=>!jF c x)=false:=by rw[← yC _ c.looks 0,decide_eq_false a3]
      have ho:=qVa h0 a2' a3'
      refine qHf c _ hc (qM (fun a4=>?_) (fun a4=>no ?_))
      ·refine qHf c _ hc ⟨ho,qE (fun a5=>no ?_) (fun a5=>qHf c _ hc ⟨ho,yes ?_⟩)⟩
       ·rw[jU,decide_eq_false (by omega)]; simp
       ·rw[jU,a1,a2',a3',a4,decide_eq_true (by omega)]; rfl
      ·rw[jU,a4]; simp
   ·rw[jU,a1]; rfl
 ·have e1:zY c=wN c.nodes c.fx c.ad c.ins:=by rw[zY,if_neg h0]
  rw[qXg,e1,if_neg h0] at hq
  exact hq
noncomputable def gPd:List SV→List HO→Option ((SV→List HO→Prop)→Prop)
 | [.agg [.v (.int .i64 fx),.v (.int .i64 ad),.v (.int .i64 ins),.x 0 [],.x 1 [],.x 2 [],.x 3 []]],[.ext _ (.s false 7 n0 c0),.ext _ (.s false 1 n1 c1),.ext false (.s false 2 n2 c2),.ext false (.s false 2 n3 c3)] =>
  some fun Q=>lC fx ad ins n0 n1 n2 n3 c0 c1 c2 c3 fun c=>Q (.tup [.v (.int .i64 (qXg c)),.v (.int .i64 (zY c))]) []
 | _,_=>none
theorem zKi(args:List SV)(h:List HO)(tr:(SV→List HO→Prop)→Prop)(Q:SV→List HO→Prop)(hc:gPd args h=some tr)(ht:tr Q):qI Tryz.prog 66 args h Q:=by
 unfold gPd at hc
 split at hc
 ·simp only[sI] at hc
  subst hc
  obtain⟨c,rfl,rfl,rfl,⟨rfl,e0⟩,⟨rfl,e1⟩,⟨rfl,e2⟩,⟨rfl,e3⟩,hk,hq⟩:=ht.h
  exact qI.ac (zRa _ _ c hk Q hq) ⟨⟨rfl,rfl,rfl,rfl,e0⟩,⟨rfl,rfl,rfl,rfl,e1⟩,⟨rfl,rfl,rfl,rfl,e2⟩,⟨rfl,rfl,rfl,rfl,e3⟩,trivial⟩
 ·cases hc
noncomputable def K52:Con Tryz.prog:=K51.add 66 gPd zKi
end Go.Proofs.YtlmjdcbhpffanaaGreat
/- Usable rows. -/
namespace Go.Pl
open Go.Sx
def usN(k:Int):Int:=if k<2 then 0 else if 30<k then 0 else 2^k.toNat-4
theorem zHh{k:Int}(h1:2≤k)(h2:k≤30):(4:Int)≤2^k.toNat∧(2:Int)^k.toNat≤1073741824:=by
 have e1:(2:Nat)^2≤2^k.toNat:=Nat.pow_le_pow_right (by omega) (by omega)
 have e2:(2:Nat)^k.toNat≤2^30:=Nat.pow_le_pow_right (by omega) (by omega)
 have e3:((2^k.toNat:Nat):Int)=(2:Int)^k.toNat:=by push_cast; rfl
 omega
theorem zIe{k:Int}(h1:2≤k)(h2:k≤30):IntKind.wrap IntKind.i64 (IntKind.wrap IntKind.i64 ((1:Int)*(2:Int)^(if Int.toNat k≤64 then Int.toNat k else 64))-(4:Int))=usN k:=by
 obtain⟨p1,p2⟩:=zHh h1 h2
 rw[if_pos (by omega),Int.one_mul,jB (2^k.toNat) (by omega),jB (2^k.toNat-4) (by omega),usN,if_neg (by omega),if_neg (by omega)]
end Go.Pl
namespace Go.Proofs.YtlmjdcbhpffanaaGreat
open Go.Sx Go.Pl
set_option linter.unusedVariables false
set_option maxRecDepth 100000
theorem usS(k:Int)(K:List It→St→Prop)(R:SV→List HO→Prop):W (xwp Tryz.prog X K52 [] 60 (qK Tryz.f37 [] []) [] [.at []] ⟨qR 0 [.v (.int .i64 k)],[]⟩ K R)=W (bif decide (k<(2:Int)) then R (.v (qA 0)) [] else bif decide ((30:Int)<k) then R (.v (qA 0)) [] else(∀ M:Mem,¬k<(0:Int))∧R (.v (qA (IntKind.wrap .i64 (IntKind.wrap .i64 ((1:Int)*(2:Int)^if Int.toNat k≤64 then Int.toNat k else 64)-(4:Int))))) []):=by kernel_rfl
theorem urS(k:Int)(K:List It→St→Prop)(R:SV→List HO→Prop):W (xwp Tryz.prog X K52 [] 60 (qK Tryz.f40 [] []) [] [.at []] ⟨qR 0 [.v (.int .i64 k)],[]⟩ K R)=W (bif decide (k<(2:Int)) then R (.v (qA 0)) [] else bif decide ((30:Int)<k) then R (.v (qA 0)) [] else(∀ M:Mem,¬IntKind.wrap IntKind.u64 k<(0:Int))∧R (.v (qA (IntKind.wrap .i64 (IntKind.wrap .i64 ((1:Int)*(2:Int)^if Int.toNat (IntKind.wrap IntKind.u64 k)≤64 then Int.toNat (IntKind.wrap IntKind.u64 k) else 64)-(4:Int))))) []):=by kernel_rfl
theorem bus:Tryz.f37.body.isSome=true:=by kernel_rfl
theorem nus(k:Int):Nat.ble [SV.v (.int .i64 k)].length Tryz.f37.ntmps=true:=by kernel_rfl
theorem zSt(k:Int)(Q:SV→List HO→Prop)(hq:Q (.v (.int .i64 (usN k))) []):qI Tryz.prog 37 [.v (.int .i64 k)] [] Q:=by
 refine qJ Tryz.func37 bus ?_ ?_
 ·exact nus k
 refine qD hm 60 ((usS k _ _).mpr ⟨?_⟩)
 simp only[qF]
 refine qE (fun h=>?_) (fun h=>qE (fun h2=>?_) (fun h2=>?_))
 ·rw[usN,if_pos h] at hq
  exact hq
 ·rw[usN,if_neg h,if_pos h2] at hq
  exact hq
 ·refine And.intro (fun _=>by omega) ?_
  rw[zIe (by omega) (by omega)]
  exact hq
noncomputable def zLm:List SV→List HO→Option ((SV→List HO→Prop)→Prop)
 | [.v (.int .i64 k)],[]=>some fun Q=>Q (.v (.int .i64 (usN k))) []
 | _,_=>none
theorem zHj(args:List SV)(h:List HO)(tr:(SV→List HO→Prop)→Prop)(Q:SV→List HO→Prop)(hc:zLm args h=some tr)(ht:tr Q):qI Tryz.prog 37 args h Q:=by
 unfold zLm at hc
 split at hc
 ·simp only[sI] at hc
  subst hc
  exact zSt _ Q ht
 ·cases hc
theorem bur:Tryz.f40.body.isSome=true:=by kernel_rfl
theorem nur(k:Int):Nat.ble [SV.v (.int .i64 k)].length Tryz.f40.ntmps=true:=by kernel_rfl
theorem zRd(k:Int)(Q:SV→List HO→Prop)(hq:Q (.v (.int .i64 (usN k))) []):qI Tryz.prog 40 [.v (.int .i64 k)] [] Q:=by
 refine qJ Tryz.func40 bur ?_ ?_
 ·exact nur k
 refine qD hm 60 ((urS k _ _).mpr ⟨?_⟩)
 simp only[qF]
 refine qE (fun h=>?_) (fun h=>qE (fun h2=>?_) (fun h2=>?_))
 ·rw[usN,if_pos h] at hq
  exact hq
 ·rw[usN,if_neg h,if_pos h2] at hq
  exact hq
 ·have e:IntKind.wrap .u64 k=k:=by rw[qY]; omega
  rw[e]
  refine And.intro (fun _=>by omega) ?_
  rw[zIe (by omega) (by omega)]
  exact hq
noncomputable def zPa:List SV→List HO→Option ((SV→List HO→Prop)→Prop)
 | [.v (.int .i64 k)],[]=>some fun Q=>Q (.v (.int .i64 (usN k))) []
 | _,_=>none
theorem zHe(args:List SV)(h:List HO)(tr:(SV→List HO→Prop)→Prop)(Q:SV→List HO→Prop)(hc:zPa args h=some tr)(ht:tr Q):qI Tryz.prog 40 args h Q:=by
 unfold zPa at hc
 split at hc
 ·simp only[sI] at hc
  subst hc
  exact zRd _ Q ht
 ·cases hc
noncomputable def K53:Con Tryz.prog:=(K52.add 37 zLm zHj).add 40 zPa zHe
end Go.Proofs.YtlmjdcbhpffanaaGreat
/- circuit.Rows. -/
namespace Go.Pl
open Go.Sx
def frQ(f:Int)(q:Int×Int×Int):Int:=if f<IntKind.wrap .i64 (0-q.2.2) then IntKind.wrap .i64 (0-q.2.2) else f
def toQ(kk t:Int)(q:Int×Int×Int):Int:=if IntKind.wrap .i64 (usN kk-q.2.2)<t then IntKind.wrap .i64 (usN kk-q.2.2) else t
def qIs(l:List (Int×Int×Int))(k:Int):Int×Int:=if l.foldl (toQ k) (usN k)≤l.foldl frQ 0 then(0,0) else(l.foldl frQ 0,l.foldl (toQ k) (usN k))
def jG(c:Cir)(k x:Int):Int×Int:=if zY c=0∧0≤x∧x<(c.nodes.length:Int) then qIs (zS c x) k else(0,0)
theorem qBg{α:Type}(f:α→Int×Int×Int→α)(a:α){l:List (Int×Int×Int)}{k:Nat}(h:k<l.length):(l.take (k+1)).foldl f a=f ((l.take k).foldl f a) (gQ l k):=by
 rw[List.take_add_one,List.getElem?_eq_getElem h,List.foldl_append,gQ,List.getD_eq_getElem?_getD,List.getElem?_eq_getElem h]; rfl
end Go.Pl
namespace Go.Proofs.YtlmjdcbhpffanaaGreat
open Go.Sx Go.Pl
set_option linter.unusedVariables false
set_option maxRecDepth 100000
theorem prS(b0 b1:Bool)(c:Cir)(k x:Int)(K:List It→St→Prop)(R:SV→List HO→Prop):W (xwp Tryz.prog X K53 [(36,[])] 60 (qK Tryz.f60 [] [⟨[0,1,0,1,1,1],[32,31,30,9,8,1],[]⟩]) [] [.at []] ⟨qR 0 [.agg [.v (.int .i64 c.fx),.v (.int .i64 c.ad),.v (.int .i64 c.ins),.x 0 [],.x 1 [],.x 2 [],.x 3 []],.v (.int .i64 k),.v (.int .i64 x)],[.ext b0 (.s false 7 c.nodes.length (cN c.nodes)),.ext b1 (.s false 1 c.gates.length (cI c.gates)),.ext false (.s false 2 c.looks.length (cL c.looks)),.ext false (.s false 2 c.eqs.length (cK c.eqs))]⟩ K R)=W (lC c.1 c.2 c.3 c.4.length c.5.length c.6.length c.7.length (cN c.4) (cI c.5) (cL c.6) (cK c.7) fun(c_1:Cir)=>bif !zY c_1==(0:Int) then R (.tup [.v (qA 0),.v (qA 0)]) [] else bif decide (x<(0:Int)) then R (.tup [.v (qA 0),.v (qA 0)]) [] else bif decide ((↑c.4.length:Int)≤x) then R (.tup [.v (qA 0),.v (qA 0)]) [] else lC c.1 c.2 c.3 c.4.length c.5.length c.6.length c.7.length (cN c.4) (cI c.5) (cL c.6) (cK c.7) fun(c:Cir)=>K [.at [0,1,0,1,1,1],.blk 0,.at [1,1,1,1]] (St.mk [(32,.v (qA 0)),(31,.v (qA (↑(List.length (zS c x)):Int))),(30,.o 0),(9,.v (qA (usN k))),(8,.v (qA 0)),(1,.v (qA k))] [.rowc 156 3 (List.length (zS c x)) (.fn (cQ (zS c x)))])):=by kernel_rfl
theorem prR(l:List (Int×Int×Int))(f t kk:Int)(k M:Nat)(K:List It→St→Prop)(R:SV→List HO→Prop):W (xwp Tryz.prog X K53 [] 60 (qK Tryz.f60 [] [⟨[0,1,0,1,1,1],[32,31,30,9,8,1],[]⟩]) [] (.at [0,0,1,0,1,1,1]::.rnd [0,0,1,0,1,1,1] M::[.blk 0,.at [1,1,1,1]]) ⟨[(32,.v (.int .i64 (k:Int))),(31,.v (.int .i64 (l.length:Int))),(30,.o 0),(9,.v (.int .i64 t)),(8,.v (.int .i64 f)),(1,.v (.int .i64 kk))],[.rowc 156 3 l.length (.fn (cQ l))]⟩ K R)=W (bif decide ((↑k:Int)<(↑l.length:Int)) then(∀ M:Mem,(0:Int)≤(↑k:Int)∧(↑k:Int)<(↑l.length:Int))∧(∀ M:Mem,k<List.length l)∧(∀ M:Mem,0+3≤3)∧K [.rnd [0,0,1,0,1,1,1] M,.blk 0,.at [1,1,1,1]] (St.mk [(32,.v (qA (IntKind.wrap .i64 ((↑k:Int)+(1:Int))))),(31,.v (qA (↑l.length:Int))),(30,.o 0),(9,.v (qA (if IntKind.wrap .i64 (usN kk-(gQ l k).2.2)<t then IntKind.wrap .i64 (usN kk-(gQ l k).2.2) else t))),(8,.v (qA (if f<IntKind.wrap .i64 ((0:Int)-(gQ l k).2.2) then IntKind.wrap .i64 ((0:Int)-(gQ l k).2.2) else f))),(1,.v (qA kk))] [.rowc 156 3 l.length (.fn (cQ l))]) else bif decide (t≤f) then R (.tup [.v (qA 0),.v (qA 0)]) [] else R (.tup [.v (qA f),.v (qA t)]) []):=by kernel_rfl
theorem qYp(l:List (Int×Int×Int))(hl:l.length≤4398046511104)(kk:Int)(Q:SV→List HO→Prop)(hq:Q (.tup [.v (.int .i64 (qIs l kk).1),.v (.int .i64 (qIs l kk).2)]) []):∀(d k:Nat) (f t:Int),k+d=l.length→f=(l.take k).foldl frQ 0→t=(l.take k).foldl (toQ kk) (usN kk) →
  FOk Tryz.prog Tryz.f60 Q (.rnd [0,0,1,0,1,1,1] (d+1)::[.blk 0,.at [1,1,1,1]]) ⟨[(32,.v (.int .i64 (k:Int))),(31,.v (.int .i64 (l.length:Int))),(30,.o 0),(9,.v (.int .i64 t)),(8,.v (.int .i64 f)),(1,.v (.int .i64 kk))],[.rowc 156 3 l.length (.fn (cQ l))]⟩
 | 0,k,f,t,hd,hf,ht=>by
  refine FOk.rnd (qD hm 60 ((prR l f t kk k 0 _ _).mpr ⟨?_⟩))
  rw[qF,if_neg (by omega),qF]
  rw[show k=l.length by omega,List.take_length] at hf ht
  rw[hf,ht]
  rw[qIs] at hq
  refine qE (fun h=>?_) (fun h=>?_)
  ·rw[if_pos h] at hq; exact hq
  ·rw[if_neg h] at hq; exact hq
 | d+1,k,f,t,hd,hf,ht=>by
  have hk:k<l.length:=by omega
  refine FOk.rnd (qD hm 60 ((prR l f t kk k (d+1) _ _).mpr ⟨?_⟩))
  rw[qF,if_pos (by omega),qL _ (by omega)]
  refine aI (aI (And.intro (fun _=>by omega) ?_))
  exact qYp l hl kk Q hq d (k+1) _ _ (by omega) (by rw[qBg _ _ hk,← hf]; rfl) (by rw[qBg _ _ hk,← ht]; rfl)
theorem bPr:Tryz.f60.body.isSome=true:=by kernel_rfl
theorem nPr(c:Cir)(k x:Int):Nat.ble [(.agg [.v (.int .i64 c.fx),.v (.int .i64 c.ad),.v (.int .i64 c.ins),.x 0 [],.x 1 [],.x 2 [],.x 3 []]:SV),.v (.int .i64 k),.v (.int .i64 x)].length Tryz.f60.ntmps=true:=by kernel_rfl
theorem zRv(b0 b1:Bool)(c:Cir)(hc:c.ok)(k x:Int)(Q:SV→List HO→Prop)(hq:Q (.tup [.v (.int .i64 (jG c k x).1),.v (.int .i64 (jG c k x).2)]) []):qI Tryz.prog 60 [.agg [.v (.int .i64 c.fx),.v (.int .i64 c.ad),.v (.int .i64 c.ins),.x 0 [],.x 1 [],.x 2 [],.x 3 []],.v (.int .i64 k),.v (.int .i64 x)] [.ext b0 (.s false 7 c.nodes.length (cN c.nodes)),.ext b1 (.s false 1 c.gates.length (cI c.gates)),.ext false (.s false 2 c.looks.length (cL c.looks)),.ext false (.s false 2 c.eqs.length (cK c.eqs))] Q:=by
 refine qJ Tryz.func60 bPr ?_ ?_
 ·exact nPr c k x
 have h1:=hc.n.2
 have h2:=qFc c x
 refine qD hm 60 ((prS b0 b1 c k x _ _).mpr ⟨?_⟩)
 have no:¬ (zY c=0∧0≤x∧x<(c.nodes.length:Int))→Q (.tup [.v (.int .i64 0),.v (.int .i64 0)]) []:=fun h=>by
  rw[jG,if_neg h] at hq
  exact hq
 simp only[qF,qN,qT]
 refine wS c hc (qE (fun a1=>qE (fun a2=>no (by omega)) (fun a2=>qE (fun a3=>no (by omega)) (fun a3=>wS c hc ?_))) (fun a1=>no (fun h=>a1 h.1)))
 rw[jG,if_pos (by omega)] at hq
 exact FOk.loop ((zS c x).length+1) (by kernel_rfl) (qYp (zS c x) (by omega) k Q hq (zS c x).length 0 _ _ (by omega) rfl rfl)
noncomputable def gPr:List SV→List HO→Option ((SV→List HO→Prop)→Prop)
 | [.agg [.v (.int .i64 fx),.v (.int .i64 ad),.v (.int .i64 ins),.x 0 [],.x 1 [],.x 2 [],.x 3 []],.v (.int .i64 k),.v (.int .i64 x)],[.ext _ (.s false 7 n0 c0),.ext _ (.s false 1 n1 c1),.ext false (.s false 2 n2 c2),.ext false (.s false 2 n3 c3)] =>
  some fun Q=>lC fx ad ins n0 n1 n2 n3 c0 c1 c2 c3 fun c=>Q (.tup [.v (.int .i64 (jG c k x).1),.v (.int .i64 (jG c k x).2)]) []
 | _,_=>none
theorem zLn(args:List SV)(h:List HO)(tr:(SV→List HO→Prop)→Prop)(Q:SV→List HO→Prop)(hc:gPr args h=some tr)(ht:tr Q):qI Tryz.prog 60 args h Q:=by
 unfold gPr at hc
 split at hc
 ·simp only[sI] at hc
  subst hc
  obtain⟨c,rfl,rfl,rfl,⟨rfl,e0⟩,⟨rfl,e1⟩,⟨rfl,e2⟩,⟨rfl,e3⟩,hk,hq⟩:=ht.h
  exact qI.ac (zRv _ _ c hk _ _ Q hq) ⟨⟨rfl,rfl,rfl,rfl,e0⟩,⟨rfl,rfl,rfl,rfl,e1⟩,⟨rfl,rfl,rfl,rfl,e2⟩,⟨rfl,rfl,rfl,rfl,e3⟩,trivial⟩
 ·cases hc
noncomputable def K54:Con Tryz.prog:=K53.add 60 gPr zLn
end Go.Proofs.YtlmjdcbhpffanaaGreat
/- The degree, by the document. -/
namespace Go.Pl
open Go.Sx
theorem qHh{dg l:List Int}{k:Nat}{a:Int}(h:k<l.length)(ha:a=gtN dg (l.take k))(hp:a<gI dg (gI l k).toNat):gI dg (gI l k).toNat=gtN dg (l.take (k+1)):=by
 rw[qHk h,← ha,if_pos hp]
theorem qHl{dg l:List Int}{k:Nat}{a:Int}(h:k<l.length)(ha:a=gtN dg (l.take k))(hp:¬ a<gI dg (gI l k).toNat):a=gtN dg (l.take (k+1)):=by
 rw[qHk h,← ha,if_neg hp]
theorem qZe{a b:Int}(h:a<b):mxI a b=b:=if_pos h
theorem qZj{a b:Int}(h:¬ a<b):mxI a b=a:=if_neg h
theorem zCn{dg l:List Int}{k:Nat}(h:k<l.length)(a:Int):mxI a (gtN dg (l.take (k+1))+1)=mxI (mxI a (gtN dg (l.take k)+1)) (gI dg (gI l k).toNat+1):=by
 rw[qHk h]
 simp only[mxI]
 repeat' split
 all_goals omega
end Go.Pl
namespace Go.Proofs.YtlmjdcbhpffanaaGreat
open Go.Sx Go.Pl
set_option linter.unusedVariables false
set_option maxRecDepth 100000
theorem zTx(c:Cir)(K:List It→St→Prop)(R:SV→List HO→Prop):W (xwp Tryz.prog X K54 [] 60 (qK Tryz.f78 [] [⟨[0,1,0,1,1,1,1],[5,4,3,1],[]⟩,⟨[0,1,0,1,1,1,1,1],[6,4,3,1],[]⟩,⟨[0,1,0,1,1,0,0,1,0,0,1,0,1,1,1,1,1],[9,7,8,6,4,3,1],[]⟩]) [] [.at []] ⟨qR 0 [.agg [.v (.int .i64 c.fx),.v (.int .i64 c.ad),.v (.int .i64 c.ins),.x 0 [],.x 1 [],.x 2 [],.x 3 []]],[.ext false (.s false 7 c.nodes.length (cN c.nodes)),.ext false (.s false 1 c.gates.length (cI c.gates)),.ext false (.s false 2 c.looks.length (cL c.looks)),.ext false (.s false 2 c.eqs.length (cK c.eqs))]⟩ K R)=W (∃(l:List Nd),List.length c.4=List.length l∧IsC c.4.length 7 (cN c.4) (cN l)∧List.length l≤4000000000000∧bif decide ((0:Int)<(↑c.6.length:Int)) then K [.at [0,1,0,1,1,1,1],.blk 0,.at [1,1,1,1,1]] (St.mk [(5,.v (qA 0)),(4,.v (qA 4)),(3,.o 0),(1,.p 1 0)] [.rowc 3 1 (List.length (qP l)) (.fn (cI (qP l))),.cells [.v (qA c.1),.v (qA c.2),.v (qA c.3),.x 2 [],.x 3 [],.x 4 [],.x 5 []] 27,.ext false (.s false 7 c.4.length (cN c.4)),.ext false (.s false 1 c.5.length (cI c.5)),.ext false (.s false 2 c.6.length (cL c.6)),.ext false (.s false 2 c.7.length (cK c.7))]) else bif decide ((0:Int)<(↑c.7.length:Int)) then K [.at [0,1,0,1,1,1,1],.blk 0,.at [1,1,1,1,1]] (St.mk [(5,.v (qA 0)),(4,.v (qA 4)),(3,.o 0),(1,.p 1 0)] [.rowc 3 1 (List.length (qP l)) (.fn (cI (qP l))),.cells [.v (qA c.1),.v (qA c.2),.v (qA c.3),.x 2 [],.x 3 [],.x 4 [],.x 5 []] 27,.ext false (.s false 7 c.4.length (cN c.4)),.ext false (.s false 1 c.5.length (cI c.5)),.ext false (.s false 2 c.6.length (cL c.6)),.ext false (.s false 2 c.7.length (cK c.7))]) else K [.at [0,1,0,1,1,1,1],.blk 0,.at [1,1,1,1,1]] (St.mk [(5,.v (qA 0)),(4,.v (qA 3)),(3,.o 0),(1,.p 1 0)] [.rowc 3 1 (List.length (qP l)) (.fn (cI (qP l))),.cells [.v (qA c.1),.v (qA c.2),.v (qA c.3),.x 2 [],.x 3 [],.x 4 [],.x 5 []] 27,.ext false (.s false 7 c.4.length (cN c.4)),.ext false (.s false 1 c.5.length (cI c.5)),.ext false (.s false 2 c.6.length (cL c.6)),.ext false (.s false 2 c.7.length (cK c.7))])):=by kernel_rfl
theorem zSf(c:Cir)(dg:List Int)(m:Int)(k M:Nat)(K:List It→St→Prop)(R:SV→List HO→Prop):W (xwp Tryz.prog X K54 [] 60 (qK Tryz.f78 [] [⟨[0,1,0,1,1,1,1],[5,4,3,1],[]⟩,⟨[0,1,0,1,1,1,1,1],[6,4,3,1],[]⟩,⟨[0,1,0,1,1,0,0,1,0,0,1,0,1,1,1,1,1],[9,7,8,6,4,3,1],[]⟩]) [] (.at [0,0,1,0,1,1,1,1]::.rnd [0,0,1,0,1,1,1,1] M::[.blk 0,.at [1,1,1,1,1]]) ⟨[(5,.v (.int .i64 (k:Int))),(4,.v (.int .i64 m)),(3,.o 0),(1,.p 1 0)],[.rowc 3 1 dg.length (.fn (cI dg)),.cells [.v (.int .i64 c.fx),.v (.int .i64 c.ad),.v (.int .i64 c.ins),.x 2 [],.x 3 [],.x 4 [],.x 5 []] 27,.ext false (.s false 7 c.nodes.length (cN c.nodes)),.ext false (.s false 1 c.gates.length (cI c.gates)),.ext false (.s false 2 c.looks.length (cL c.looks)),.ext false (.s false 2 c.eqs.length (cK c.eqs))]⟩ K R)=W (bif decide ((↑k:Int)<(↑c.5.length:Int)) then(∀ M:Mem,(0:Int)≤(↑k:Int)∧(↑k:Int)<(↑c.5.length:Int))∧(∀ M:Mem,k<List.length c.5)∧(∀ M:Mem,(0:Int)≤gI c.5 k∧gI c.5 k<(↑dg.length:Int))∧(∀ M:Mem,Int.toNat (gI c.5 k)<List.length dg)∧bif decide (m<IntKind.wrap .i64 (gI dg (Int.toNat (gI c.5 k))+(1:Int))) then(∀ M:Mem,(0:Int)≤(↑k:Int)∧(↑k:Int)<(↑c.5.length:Int))∧(∀ M:Mem,k<List.length c.5)∧(∀ M:Mem,(0:Int)≤gI c.5 k∧gI c.5 k<(↑dg.length:Int))∧(∀ M:Mem,Int.toNat (gI c.5 k)<List.length dg)∧K [.rnd [0,0,1,0,1,1,1,1] M,.blk 0,.at [1,1,1,1,1]] (St.mk [(5,.v (qA (IntKind.wrap .i64 ((↑k:Int)+(1:Int))))),(4,.v (qA (IntKind.wrap .i64 (gI dg (Int.toNat (gI c.5 k))+(1:Int))))),(3,.o 0),(1,.p 1 0)] [.rowc 3 1 dg.length (.fn (cI dg)),.cells [.v (qA c.1),.v (qA c.2),.v (qA c.3),.x 2 [],.x 3 [],.x 4 [],.x 5 []] 27,.ext false (.s false 7 c.4.length (cN c.4)),.ext false (.s false 1 c.5.length (cI c.5)),.ext false (.s false 2 c.6.length (cL c.6)),.ext false (.s false 2 c.7.length (cK c.7))]) else K [.rnd [0,0,1,0,1,1,1,1] M,.blk 0,.at [1,1,1,1,1]] (St.mk [(5,.v (qA (IntKind.wrap .i64 ((↑k:Int)+(1:Int))))),(4,.v (qA m)),(3,.o 0),(1,.p 1 0)] [.rowc 3 1 dg.length (.fn (cI dg)),.cells [.v (qA c.1),.v (qA c.2),.v (qA c.3),.x 2 [],.x 3 [],.x 4 [],.x 5 []] 27,.ext false (.s false 7 c.4.length (cN c.4)),.ext false (.s false 1 c.5.length (cI c.5)),.ext false (.s false 2 c.6.length (cL c.6)),.ext false (.s false 2 c.7.length (cK c.7))]) else K [.at [0,1,0,1,1,1,1,1],.blk 2,.at [1,1,1,1,1,1]] (St.mk [(6,.v (qA 0)),(4,.v (qA m)),(3,.o 0),(1,.p 1 0)] [.rowc 3 1 dg.length (.fn (cI dg)),.cells [.v (qA c.1),.v (qA c.2),.v (qA c.3),.x 2 [],.x 3 [],.x 4 [],.x 5 []] 27,.ext false (.s false 7 c.4.length (cN c.4)),.ext false (.s false 1 c.5.length (cI c.5)),.ext false (.s false 2 c.6.length (cL c.6)),.ext false (.s false 2 c.7.length (cK c.7))])):=by kernel_rfl
theorem zPy(c:Cir)(dg:List Int)(m:Int)(k M:Nat)(K:List It→St→Prop)(R:SV→List HO→Prop):W (xwp Tryz.prog X K54 [] 60 (qK Tryz.f78 [] [⟨[0,1,0,1,1,1,1],[5,4,3,1],[]⟩,⟨[0,1,0,1,1,1,1,1],[6,4,3,1],[]⟩,⟨[0,1,0,1,1,0,0,1,0,0,1,0,1,1,1,1,1],[9,7,8,6,4,3,1],[]⟩]) [] (.at [0,0,1,0,1,1,1,1,1]::.rnd [0,0,1,0,1,1,1,1,1] M::[.blk 2,.at [1,1,1,1,1,1]]) ⟨[(6,.v (.int .i64 (k:Int))),(4,.v (.int .i64 m)),(3,.o 0),(1,.p 1 0)],[.rowc 3 1 dg.length (.fn (cI dg)),.cells [.v (.int .i64 c.fx),.v (.int .i64 c.ad),.v (.int .i64 c.ins),.x 2 [],.x 3 [],.x 4 [],.x 5 []] 27,.ext false (.s false 7 c.nodes.length (cN c.nodes)),.ext false (.s false 1 c.gates.length (cI c.gates)),.ext false (.s false 2 c.looks.length (cL c.looks)),.ext false (.s false 2 c.eqs.length (cK c.eqs))]⟩ K R)=W (bif decide ((↑k:Int)<(↑c.6.length:Int)) then K [.at [0,1,0,1,1,0,0,1,0,0,1,0,1,1,1,1,1],.blk 4,.at [1,1,1,0,0,1,0,0,1,0,1,1,1,1,1],.blk 3,.at [1,1,0,0,1,0,1,1,1,1,1],.rnd [0,0,1,0,1,1,1,1,1] M,.blk 2,.at [1,1,1,1,1,1]] (St.mk [(9,.v (qA 0)),(7,.v (qA 0)),(8,.v (qA 0)),(6,.v (qA (↑k:Int))),(4,.v (qA m)),(3,.o 0),(1,.p 1 0)] [.rowc 3 1 dg.length (.fn (cI dg)),.cells [.v (qA c.1),.v (qA c.2),.v (qA c.3),.x 2 [],.x 3 [],.x 4 [],.x 5 []] 27,.ext false (.s false 7 c.4.length (cN c.4)),.ext false (.s false 1 c.5.length (cI c.5)),.ext false (.s false 2 c.6.length (cL c.6)),.ext false (.s false 2 c.7.length (cK c.7))]) else R (.v (qA m)) []):=by kernel_rfl
theorem zTf(c:Cir)(dg:List Int)(a b m:Int)(i k M2 M:Nat)(K:List It→St→Prop)(R:SV→List HO→Prop):W (xwp Tryz.prog X K54 [] 60 (qK Tryz.f78 [] [⟨[0,1,0,1,1,1,1],[5,4,3,1],[]⟩,⟨[0,1,0,1,1,1,1,1],[6,4,3,1],[]⟩,⟨[0,1,0,1,1,0,0,1,0,0,1,0,1,1,1,1,1],[9,7,8,6,4,3,1],[]⟩]) [] (.at [0,0,1,0,1,1,0,0,1,0,0,1,0,1,1,1,1,1]::.rnd [0,0,1,0,1,1,0,0,1,0,0,1,0,1,1,1,1,1] M::[.blk 4,.at [1,1,1,0,0,1,0,0,1,0,1,1,1,1,1],.blk 3,.at [1,1,0,0,1,0,1,1,1,1,1],.rnd [0,0,1,0,1,1,1,1,1] M2,.blk 2,.at [1,1,1,1,1,1]]) ⟨[(9,.v (.int .i64 (k:Int))),(7,.v (.int .i64 a)),(8,.v (.int .i64 b)),(6,.v (.int .i64 (i:Int))),(4,.v (.int .i64 m)),(3,.o 0),(1,.p 1 0)],[.rowc 3 1 dg.length (.fn (cI dg)),.cells [.v (.int .i64 c.fx),.v (.int .i64 c.ad),.v (.int .i64 c.ins),.x 2 [],.x 3 [],.x 4 [],.x 5 []] 27,.ext false (.s false 7 c.nodes.length (cN c.nodes)),.ext false (.s false 1 c.gates.length (cI c.gates)),.ext false (.s false 2 c.looks.length (cL c.looks)),.ext false (.s false 2 c.eqs.length (cK c.eqs))]⟩ K R)=W ((∀ M:Mem,(0:Int)≤(↑i:Int)∧(↑i:Int)<(↑c.6.length:Int))∧(∀ M:Mem,i<List.length c.6)∧(∀ M:Mem,i<List.length c.6)∧(∀ M:Mem,i<List.length c.6)∧bif decide ((↑k:Int)<(↑(List.length (gL c.6 i).1):Int)) then(∀ M:Mem,(0:Int)≤(↑i:Int)∧(↑i:Int)<(↑c.6.length:Int))∧(∀ M:Mem,i<List.length c.6)∧(∀ M:Mem,i<List.length c.6)∧(∀ M:Mem,i<List.length c.6)∧(∀ M:Mem,(0:Int)≤(↑k:Int)∧(↑k:Int)<(↑(List.length (gL c.6 i).1):Int))∧(∀ M:Mem,i<List.length c.6)∧(∀ M:Mem,k<List.length (gL c.6 i).1)∧(∀ M:Mem,(0:Int)≤gI (gL c.6 i).1 k∧gI (gL c.6 i).1 k<(↑dg.length:Int))∧(∀ M:Mem,Int.toNat (gI (gL c.6 i).1 k)<List.length dg)∧bif decide (a<gI dg (Int.toNat (gI (gL c.6 i).1 k))) then(∀ M:Mem,(0:Int)≤(↑i:Int)∧(↑i:Int)<(↑c.6.length:Int))∧(∀ M:Mem,i<List.length c.6)∧(∀ M:Mem,i<List.length c.6)∧(∀ M:Mem,i<List.length c.6)∧(∀ M:Mem,(0:Int)≤(↑k:Int)∧(↑k:Int)<(↑(List.length (gL c.6 i).1):Int))∧(∀ M:Mem,i<List.length c.6)∧(∀ M:Mem,k<List.length (gL c.6 i).1)∧(∀ M:Mem,(0:Int)≤gI (gL c.6 i).1 k∧gI (gL c.6 i).1 k<(↑dg.length:Int))∧(∀ M:Mem,Int.toNat (gI (gL c.6 i).1 k)<List.length dg)∧(∀ M:Mem,(0:Int)≤(↑i:Int)∧(↑i:Int)<(↑c.6.length:Int))∧(∀ M:Mem,i<List.length c.6)∧(∀ M:Mem,i<List.length c.6)∧(∀ M:Mem,i<List.length c.6)∧(∀ M:Mem,(0:Int)≤(↑k:Int)∧(↑k:Int)<(↑(List.length (gL c.6 i).2):Int))∧(∀ M:Mem,i<List.length c.6)∧(∀ M:Mem,k<List.length (gL c.6 i).2)∧(∀ M:Mem,(0:Int)≤gI (gL c.6 i).2 k∧gI (gL c.6 i).2 k<(↑dg.length:Int))∧(∀ M:Mem,Int.toNat (gI (gL c.6 i).2 k)<List.length dg)∧bif decide (b<gI dg (Int.toNat (gI (gL c.6 i).2 k))) then(∀ M:Mem,(0:Int)≤(↑i:Int)∧(↑i:Int)<(↑c.6.length:Int))∧(∀ M:Mem,i<List.length c.6)∧(∀ M:Mem,i<List.length c.6)∧(∀ M:Mem,i<List.length c.6)∧(∀ M:Mem,(0:Int)≤(↑k:Int)∧(↑k:Int)<(↑(List.length (gL c.6 i).2):Int))∧(∀ M:Mem,i<List.length c.6)∧(∀ M:Mem,k<List.length (gL c.6 i).2)∧(∀ M:Mem,(0:Int)≤gI (gL c.6 i).2 k∧gI (gL c.6 i).2 k<(↑dg.length:Int))∧(∀ M:Mem,Int.toNat (gI (gL c.6 i).2 k)<List.length dg)∧K [.rnd [0,0,1,0,1,1,0,0,1,0,0,1,0,1,1,1,1,1] M,.blk 4,.at [1,1,1,0,0,1,0,0,1,0,1,1,1,1,1],.blk 3,.at [1,1,0,0,1,0,1,1,1,1,1],.rnd [0,0,1,0,1,1,1,1,1] M2,.blk 2,.at [1,1,1,1,1,1]] (St.mk [(9,.v (qA (IntKind.wrap .i64 ((↑k:Int)+(1:Int))))),(7,.v (qA (gI dg (Int.toNat (gI (gL c.6 i).1 k))))),(8,.v (qA (gI dg (Int.toNat (gI (gL c.6 i).2 k))))),(6,.v (qA (↑i:Int))),(4,.v (qA m)),(3,.o 0),(1,.p 1 0)] [.rowc 3 1 dg.length (.fn (cI dg)),.cells [.v (qA c.1),.v (qA c.2),.v (qA c.3),.x 2 [],.x 3 [],.x 4 [],.x 5 []] 27,.ext false (.s false 7 c.4.length (cN c.4)),.ext false (.s false 1 c.5.length (cI c.5)),.ext false (.s false 2 c.6.length (cL c.6)),.ext false (.s false 2 c.7.length (cK c.7))]) else K [.rnd [0,0,1,0,1,1,0,0,1,0,0,1,0,1,1,1,1,1] M,.blk 4,.at [1,1,1,0,0,1,0,0,1,0,1,1,1,1,1],.blk 3,.at [1,1,0,0,1,0,1,1,1,1,1],.rnd [0,0,1,0,1,1,1,1,1] M2,.blk 2,.at [1,1,1,1,1,1]] (St.mk [(9,.v (qA (IntKind.wrap .i64 ((↑k:Int)+(1:Int))))),(7,.v (qA (gI dg (Int.toNat (gI (gL c.6 i).1 k))))),(8,.v (qA b)),(6,.v (qA (↑i:Int))),(4,.v (qA m)),(3,.o 0),(1,.p 1 0)] [.rowc 3 1 dg.length (.fn (cI dg)),.cells [.v (qA c.1),.v (qA c.2),.v (qA c.3),.x 2 [],.x 3 [],.x 4 [],.x 5 []] 27,.ext false (.s false 7 c.4.length (cN c.4)),.ext false (.s false 1 c.5.length (cI c.5)),.ext false (.s false 2 c.6.length (cL c.6)),.ext false (.s false 2 c.7.length (cK c.7))]) else(∀ M:Mem,(0:Int)≤(↑i:Int)∧(↑i:Int)<(↑c.6.length:Int))∧(∀ M:Mem,i<List.length c.6)∧(∀ M:Mem,i<List.length c.6)∧(∀ M:Mem,i<List.length c.6)∧(∀ M:Mem,(0:Int)≤(↑k:Int)∧(↑k:Int)<(↑(List.length (gL c.6 i).2):Int))∧(∀ M:Mem,i<List.length c.6)∧(∀ M:Mem,k<List.length (gL c.6 i).2)∧(∀ M:Mem,(0:Int)≤gI (gL c.6 i).2 k∧gI (gL c.6 i).2 k<(↑dg.length:Int))∧(∀ M:Mem,Int.toNat (gI (gL c.6 i).2 k)<List.length dg)∧bif decide (b<gI dg (Int.toNat (gI (gL c.6 i).2 k))) then(∀ M:Mem,(0:Int)≤(↑i:Int)∧(↑i:Int)<(↑c.6.length:Int))∧(∀ M:Mem,i<List.length c.6)∧(∀ M:Mem,i<List.length c.6)∧(∀ M:Mem,i<List.length c.6)∧(∀ M:Mem,(0:Int)≤(↑k:Int)∧(↑k:Int)<(↑(List.length (gL c.6 i).2):Int))∧(∀ M:Mem,i<List.length c.6)∧(∀ M:Mem,k<List.length (gL c.6 i).2)∧(∀ M:Mem,(0:Int)≤gI (gL c.6 i).2 k∧gI (gL c.6 i).2 k<(↑dg.length:Int))∧(∀ M:Mem,Int.toNat (gI (gL c.6 i).2 k)<List.length dg)∧K [.rnd [0,0,1,0,1,1,0,0,1,0,0,1,0,1,1,1,1,1] M,.blk 4,.at [1,1,1,0,0,1,0,0,1,0,1,1,1,1,1],.blk 3,.at [1,1,0,0,1,0,1,1,1,1,1],.rnd [0,0,1,0,1,1,1,1,1] M2,.blk 2,.at [1,1,1,1,1,1]] (St.mk [(9,.v (qA (IntKind.wrap .i64 ((↑k:Int)+(1:Int))))),(7,.v (qA a)),(8,.v (qA (gI dg (Int.toNat (gI (gL c.6 i).2 k))))),(6,.v (qA (↑i:Int))),(4,.v (qA m)),(3,.o 0),(1,.p 1 0)] [.rowc 3 1 dg.length (.fn (cI dg)),.cells [.v (qA c.1),.v (qA c.2),.v (qA c.3),.x 2 [],.x 3 [],.x 4 [],.x 5 []] 27,.ext false (.s false 7 c.4.length (cN c.4)),.ext false (.s false 1 c.5.length (cI c.5)),.ext false (.s false 2 c.6.length (cL c.6)),.ext false (.s false 2 c.7.length (cK c.7))]) else K [.rnd [0,0,1,0,1,1,0,0,1,0,0,1,0,1,1,1,1,1] M,.blk 4,.at [1,1,1,0,0,1,0,0,1,0,1,1,1,1,1],.blk 3,.at [1,1,0,0,1,0,1,1,1,1,1],.rnd [0,0,1,0,1,1,1,1,1] M2,.blk 2,.at [1,1,1,1,1,1]] (St.mk [(9,.v (qA (IntKind.wrap .i64 ((↑k:Int)+(1:Int))))),(7,.v (qA a)),(8,.v (qA b)),(6,.v (qA (↑i:Int))),(4,.v (qA m)),(3,.o 0),(1,.p 1 0)] [.rowc 3 1 dg.length (.fn (cI dg)),.cells [.v (qA c.1),.v (qA c.2),.v (qA c.3),.x 2 [],.x 3 [],.x 4 [],.x 5 []] 27,.ext false (.s false 7 c.4.length (cN c.4)),.ext false (.s false 1 c.5.length (cI c.5)),.ext false (.s false 2 c.6.length (cL c.6)),.ext false (.s false 2 c.7.length (cK c.7))]) else bif decide (m<IntKind.wrap .i64 (IntKind.wrap .i64 ((2:Int)+a)+b)) then K [.rnd [0,0,1,0,1,1,1,1,1] M2,.blk 2,.at [1,1,1,1,1,1]] (St.mk [(6,.v (qA (IntKind.wrap .i64 ((↑i:Int)+(1:Int))))),(4,.v (qA (IntKind.wrap .i64 (IntKind.wrap .i64 ((2:Int)+a)+b)))),(3,.o 0),(1,.p 1 0)] [.rowc 3 1 dg.length (.fn (cI dg)),.cells [.v (qA c.1),.v (qA c.2),.v (qA c.3),.x 2 [],.x 3 [],.x 4 [],.x 5 []] 27,.ext false (.s false 7 c.4.length (cN c.4)),.ext false (.s false 1 c.5.length (cI c.5)),.ext false (.s false 2 c.6.length (cL c.6)),.ext false (.s false 2 c.7.length (cK c.7))]) else K [.rnd [0,0,1,0,1,1,1,1,1] M2,.blk 2,.at [1,1,1,1,1,1]] (St.mk [(6,.v (qA (IntKind.wrap .i64 ((↑i:Int)+(1:Int))))),(4,.v (qA m)),(3,.o 0),(1,.p 1 0)] [.rowc 3 1 dg.length (.fn (cI dg)),.cells [.v (qA c.1),.v (qA c.2),.v (qA c.3),.x 2 [],.x 3 [],.x 4 [],.x 5 []] 27,.ext false (.s false 7 c.4.length (cN c.4)),.ext false (.s false 1 c.5.length (cI c.5)),.ext false (.s false 2 c.6.length (cL c.6)),.ext false (.s false 2 c.7.length (cK c.7))])):=by kernel_rfl
theorem zEw(c:Cir)(hc:c.ok)(dg:List Int)(ho:qBo c dg)(m:Int)(i M2:Nat)(hi:i<c.looks.length)(hlen:(gL c.looks i).2.length=(gL c.looks i).1.length)(Q:SV→List HO→Prop)(next:FOk Tryz.prog Tryz.f78 Q (.rnd [0,0,1,0,1,1,1,1,1] M2::[.blk 2,.at [1,1,1,1,1,1]]) ⟨[(6,.v (.int .i64 ((i+1:Nat):Int))),(4,.v (.int .i64 (mxI m (2+gtN dg (gL c.looks i).1+gtN dg (gL c.looks i).2)))),(3,.o 0),(1,.p 1 0)],[.rowc 3 1 dg.length (.fn (cI dg)),.cells [.v (.int .i64 c.fx),.v (.int .i64 c.ad),.v (.int .i64 c.ins),.x 2 [],.x 3 [],.x 4 [],.x 5 []] 27,.ext false (.s false 7 c.nodes.length (cN c.nodes)),.ext false (.s false 1 c.gates.length (cI c.gates)),.ext false (.s false 2 c.looks.length (cL c.looks)),.ext false (.s false 2 c.eqs.length (cK c.eqs))]⟩):∀(d k:Nat) (a b:Int),k+d=(gL c.looks i).1.length→a=gtN dg ((gL c.looks i).1.take k)→b=gtN dg ((gL c.looks i).2.take k) →
  FOk Tryz.prog Tryz.f78 Q (.rnd [0,0,1,0,1,1,0,0,1,0,0,1,0,1,1,1,1,1] (d+1)::[.blk 4,.at [1,1,1,0,0,1,0,0,1,0,1,1,1,1,1],.blk 3,.at [1,1,0,0,1,0,1,1,1,1,1],.rnd [0,0,1,0,1,1,1,1,1] M2,.blk 2,.at [1,1,1,1,1,1]]) ⟨[(9,.v (.int .i64 (k:Int))),(7,.v (.int .i64 a)),(8,.v (.int .i64 b)),(6,.v (.int .i64 (i:Int))),(4,.v (.int .i64 m)),(3,.o 0),(1,.p 1 0)],[.rowc 3 1 dg.length (.fn (cI dg)),.cells [.v (.int .i64 c.fx),.v (.int .i64 c.ad),.v (.int .i64 c.ins),.x 2 [],.x 3 [],.x 4 [],.x 5 []] 27,.ext false (.s false 7 c.nodes.length (cN c.nodes)),.ext false (.s false 1 c.gates.length (cI c.gates)),.ext false (.s false 2 c.looks.length (cL c.looks)),.ext false (.s false 2 c.eqs.length (cK c.eqs))]⟩
 | 0,k,a,b,hd,ha,hb=>by
  have h1:=hc.l.2
  have t1:=qGp ho.d (gL c.looks i).1
  have t2:=qGp ho.d (gL c.looks i).2
  refine FOk.rnd (qD hm 60 ((zTf c dg a b m i k M2 0 _ _).mpr ⟨?_⟩))
  rw[show k=(gL c.looks i).1.length by omega,List.take_length] at ha
  rw[show k=(gL c.looks i).2.length by omega,List.take_length] at hb
  refine aI (aI (aI (And.intro (fun _=>by omega) ?_)))
  rw[qF,if_neg (by omega),ha,hb,jB (2+gtN dg (gL c.looks i).1) (by omega),jB (2+gtN dg (gL c.looks i).1+gtN dg (gL c.looks i).2) (by omega),qL i (by omega),qF]
  refine qE (fun h=>?_) (fun h=>?_)
  ·rw[qZe h] at next; exact next
  ·rw[qZj h] at next; exact next
 | d+1,k,a,b,hd,ha,hb=>by
  have h1:=hc.l.2
  obtain⟨⟨_,g1⟩,⟨_,g2⟩⟩:=hc.l.1 _ (wY hi)
  obtain⟨o1,o2⟩:=ho.l _ (wY hi)
  have hk:k<(gL c.looks i).1.length:=by omega
  have hk2:k<(gL c.looks i).2.length:=by omega
  obtain⟨p1,p2⟩:=o1 _ (xI hk)
  obtain⟨p3,p4⟩:=o2 _ (xI hk2)
  have rec':=zEw c hc dg ho m i M2 hi hlen Q next d (k+1)
  refine FOk.rnd (qD hm 60 ((zTf c dg a b m i k M2 (d+1) _ _).mpr ⟨?_⟩))
  rw[qL k (by omega)]
  simp only[qF,forall_const]
  refine And.intro (by omega) (And.intro (by omega) (And.intro (by omega) (And.intro (by omega) ?_)))
  rw[if_pos (by omega)]
  repeat' (first | refine And.intro (by omega) ?_ | refine qE (fun h=>?_) (fun h=>?_))
  all_goals first
   | exact rec' _ _ (by omega) (qHh hk ha (by assumption)) (qHh hk2 hb (by assumption))
   | exact rec' _ _ (by omega) (qHh hk ha (by assumption)) (qHl hk2 hb (by assumption))
   | exact rec' _ _ (by omega) (qHl hk ha (by assumption)) (qHh hk2 hb (by assumption))
   | exact rec' _ _ (by omega) (qHl hk ha (by assumption)) (qHl hk2 hb (by assumption))
theorem qZx(c:Cir)(hc:c.ok)(dg:List Int)(ho:qBo c dg)(hlen:∀ x∈c.looks,x.2.length=x.1.length)(Q:SV→List HO→Prop)(hq:Q (.v (.int .i64 (qEe c dg))) []):∀(d k:Nat) (m:Int),k+d=c.looks.length→m=(c.looks.take k).foldl (fun d l=>mxI d (2+gtN dg l.1+gtN dg l.2)) (mxI (qAq c) (gtN dg c.gates+1)) →
  FOk Tryz.prog Tryz.f78 Q (.rnd [0,0,1,0,1,1,1,1,1] (d+1)::[.blk 2,.at [1,1,1,1,1,1]]) ⟨[(6,.v (.int .i64 (k:Int))),(4,.v (.int .i64 m)),(3,.o 0),(1,.p 1 0)],[.rowc 3 1 dg.length (.fn (cI dg)),.cells [.v (.int .i64 c.fx),.v (.int .i64 c.ad),.v (.int .i64 c.ins),.x 2 [],.x 3 [],.x 4 [],.x 5 []] 27,.ext false (.s false 7 c.nodes.length (cN c.nodes)),.ext false (.s false 1 c.gates.length (cI c.gates)),.ext false (.s false 2 c.looks.length (cL c.looks)),.ext false (.s false 2 c.eqs.length (cK c.eqs))]⟩
 | 0,k,m,hd,he=>by
  refine FOk.rnd (qD hm 60 ((zPy c dg m k 0 _ _).mpr ⟨?_⟩))
  rw[qF,if_neg (by omega)]
  rw[show k=c.looks.length by omega,List.take_length] at he
  rw[he]
  exact hq
 | d+1,k,m,hd,he=>by
  have hk:k<c.looks.length:=by omega
  refine FOk.rnd (qD hm 60 ((zPy c dg m k (d+1) _ _).mpr ⟨?_⟩))
  rw[qF,if_pos (by omega)]
  exact FOk.loop ((gL c.looks k).1.length+1) (by kernel_rfl) (zEw c hc dg ho m k (d+1) hk (hlen _ (wY hk)) Q (qZx c hc dg ho hlen Q hq d (k+1) _ (by omega) (by rw[qJb _ _ hk,← he])) (gL c.looks k).1.length 0 0 0 (by omega) rfl rfl)
theorem qUu(c:Cir)(hc:c.ok)(dg:List Int)(ho:qBo c dg)(hlen:∀ x∈c.looks,x.2.length=x.1.length)(Q:SV→List HO→Prop)(hq:Q (.v (.int .i64 (qEe c dg))) []):∀(d k:Nat) (m:Int),k+d=c.gates.length→m=mxI (qAq c) (gtN dg (c.gates.take k)+1) →
  FOk Tryz.prog Tryz.f78 Q (.rnd [0,0,1,0,1,1,1,1] (d+1)::[.blk 0,.at [1,1,1,1,1]]) ⟨[(5,.v (.int .i64 (k:Int))),(4,.v (.int .i64 m)),(3,.o 0),(1,.p 1 0)],[.rowc 3 1 dg.length (.fn (cI dg)),.cells [.v (.int .i64 c.fx),.v (.int .i64 c.ad),.v (.int .i64 c.ins),.x 2 [],.x 3 [],.x 4 [],.x 5 []] 27,.ext false (.s false 7 c.nodes.length (cN c.nodes)),.ext false (.s false 1 c.gates.length (cI c.gates)),.ext false (.s false 2 c.looks.length (cL c.looks)),.ext false (.s false 2 c.eqs.length (cK c.eqs))]⟩
 | 0,k,m,hd,he=>by
  refine FOk.rnd (qD hm 60 ((zSf c dg m k 0 _ _).mpr ⟨?_⟩))
  rw[qF,if_neg (by omega)]
  rw[show k=c.gates.length by omega,List.take_length] at he
  exact FOk.loop (c.looks.length+1) (by kernel_rfl) (qZx c hc dg ho hlen Q hq c.looks.length 0 m (by omega) he)
 | d+1,k,m,hd,he=>by
  have hk:k<c.gates.length:=by omega
  have h1:=hc.g.2
  obtain⟨p1,p2⟩:=ho.g _ (xI hk)
  have t:=zBw ho.d (gI c.gates k).toNat
  have rec':=qUu c hc dg ho hlen Q hq d (k+1) (mxI m (gI dg (gI c.gates k).toNat+1)) (by omega) (by rw[zCn hk,← he])
  refine FOk.rnd (qD hm 60 ((zSf c dg m k (d+1) _ _).mpr ⟨?_⟩))
  rw[qF,if_pos (by omega),qL k (by omega),jB (gI dg (gI c.gates k).toNat+1) (by omega)]
  refine aI (aI (aI (aI (?_))))
  rw[qF]
  refine qE (fun h=>?_) (fun h=>?_)
  ·rw[qZe h] at rec'
   exact aI (aI (aI (aI (rec'))))
  ·rw[qZj h] at rec'
   exact rec'
theorem zXg:Tryz.f78.body.isSome=true:=by kernel_rfl
theorem zUz(c:Cir):Nat.ble [(.agg [.v (.int .i64 c.fx),.v (.int .i64 c.ad),.v (.int .i64 c.ins),.x 0 [],.x 1 [],.x 2 [],.x 3 []]:SV)].length Tryz.f78.ntmps=true:=by kernel_rfl
theorem zPu(c:Cir)(hc:c.ok)(ho:qBo c (qP c.nodes))(hlen:∀ x∈c.looks,x.2.length=x.1.length)(Q:SV→List HO→Prop)(hq:Q (.v (.int .i64 (qEe c (qP c.nodes)))) []):qI Tryz.prog 78 [.agg [.v (.int .i64 c.fx),.v (.int .i64 c.ad),.v (.int .i64 c.ins),.x 0 [],.x 1 [],.x 2 [],.x 3 []]] [.ext false (.s false 7 c.nodes.length (cN c.nodes)),.ext false (.s false 1 c.gates.length (cI c.gates)),.ext false (.s false 2 c.looks.length (cL c.looks)),.ext false (.s false 2 c.eqs.length (cK c.eqs))] Q:=by
 refine qJ Tryz.func78 zXg ?_ ?_
 ·exact zUz c
 have h1:=hc.n.2
 refine qD hm 60 ((zTx c _ _).mpr ⟨?_⟩)
 refine⟨c.nodes,rfl,IsC.refl _ _ _,by omega,?_⟩
 have start:∀ m:Int,m=qAq c→FOk Tryz.prog Tryz.f78 Q (.rnd [0,0,1,0,1,1,1,1] (c.gates.length+1)::[.blk 0,.at [1,1,1,1,1]]) ⟨[(5,.v (.int .i64 ((0:Nat):Int))),(4,.v (.int .i64 m)),(3,.o 0),(1,.p 1 0)],[.rowc 3 1 (qP c.nodes).length (.fn (cI (qP c.nodes))),.cells [.v (.int .i64 c.fx),.v (.int .i64 c.ad),.v (.int .i64 c.ins),.x 2 [],.x 3 [],.x 4 [],.x 5 []] 27,.ext false (.s false 7 c.nodes.length (cN c.nodes)),.ext false (.s false 1 c.gates.length (cI c.gates)),.ext false (.s false 2 c.looks.length (cL c.looks)),.ext false (.s false 2 c.eqs.length (cK c.eqs))]⟩:=fun m hm'=>by
  refine qUu c hc _ ho hlen Q hq c.gates.length 0 m (by omega) ?_
  rw[hm',mxI,if_neg]
  ·have:qAq c=3∨qAq c=4:=by rw[qAq]; split <;> simp
   simp only[List.take_zero,gtN,List.foldl_nil]
   omega
 simp only[qF]
 refine qE (fun h=>?_) (fun h=>qE (fun h2=>?_) (fun h2=>?_))
 ·exact FOk.loop (c.gates.length+1) (by kernel_rfl) (start 4 (by rw[qAq,if_pos (by omega)]))
 ·exact FOk.loop (c.gates.length+1) (by kernel_rfl) (start 4 (by rw[qAq,if_pos (by omega)]))
 ·exact FOk.loop (c.gates.length+1) (by kernel_rfl) (start 3 (by rw[qAq,if_neg (by omega)]))
noncomputable def zKz:List SV→List HO→Option ((SV→List HO→Prop)→Prop)
 | [.agg [.v (.int .i64 fx),.v (.int .i64 ad),.v (.int .i64 ins),.x 0 [],.x 1 [],.x 2 [],.x 3 []]],[.ext false (.s false 7 n0 c0),.ext false (.s false 1 n1 c1),.ext false (.s false 2 n2 c2),.ext false (.s false 2 n3 c3)] =>
  some fun Q=>lC fx ad ins n0 n1 n2 n3 c0 c1 c2 c3 fun c=>(qBo c (qP c.nodes)∧∀ x∈c.looks,x.2.length=x.1.length)∧Q (.v (.int .i64 (qEe c (qP c.nodes)))) []
 | _,_=>none
theorem zGc(args:List SV)(h:List HO)(tr:(SV→List HO→Prop)→Prop)(Q:SV→List HO→Prop)(hc:zKz args h=some tr)(ht:tr Q):qI Tryz.prog 78 args h Q:=by
 unfold zKz at hc
 split at hc
 ·rename_i fx ad ins n0 c0 n1 c1 n2 c2 n3 c3
  simp only[sI] at hc
  subst hc
  obtain⟨c,rfl,rfl,rfl,⟨rfl,e0⟩,⟨rfl,e1⟩,⟨rfl,e2⟩,⟨rfl,e3⟩,hk,ho,hq⟩:=ht.h
  exact qI.ac (zPu c hk ho.1 ho.2 Q hq) ⟨⟨rfl,rfl,rfl,rfl,e0⟩,⟨rfl,rfl,rfl,rfl,e1⟩,⟨rfl,rfl,rfl,rfl,e2⟩,⟨rfl,rfl,rfl,rfl,e3⟩,trivial⟩
 ·cases hc
noncomputable def K55:Con Tryz.prog:=K54.add 78 zKz zGc
end Go.Proofs.YtlmjdcbhpffanaaGreat
/- Is a circuit right? By the document. -/
namespace Go.Pl
open Go.Sx
theorem zLx(c:Cir){k:Int}(h1:2≤k)(h2:k≤4):[SV.v (.int .i64 c.fx),SV.v (.int .i64 c.ad),SV.v (.int .i64 c.ins)][0+Int.toNat (IntKind.wrap IntKind.i64 (k-2))*1]?=some (SV.v (.int .i64 (qLn c k))):=by
 have:k=2∨k=3∨k=4:=by omega
 rcases this with rfl | rfl | rfl <;> rfl
theorem qNy{l:List (Int×Int)}{k:Nat}(hk:k<l.length){x:Int×Int}:x∈l.take k↔∃ j,j<k∧gK l j=x:=by
 constructor
 ·intro h
  obtain⟨j,hj,e⟩:=List.getElem_of_mem h
  rw[List.length_take] at hj
  refine⟨j,by omega,?_⟩
  rw[List.getElem_take] at e
  rw[gK,List.getD_eq_getElem?_getD,List.getElem?_eq_getElem (by omega)]
  exact e
 ·rintro⟨j,hj,rfl⟩
  have hj2:j<(l.take k).length:=by rw[List.length_take]; omega
  have:(l.take k)[j]=gK l j:=by
   rw[List.getElem_take,gK,List.getD_eq_getElem?_getD,List.getElem?_eq_getElem (by omega)]; rfl
  rw[← this]
  exact List.getElem_mem hj2
theorem qIf{p:Int→Bool}{l:List Int}{k:Nat}(h:k<l.length):(l.take (k+1)).any p=((l.take k).any p||p (gI l k)):=by
 rw[qRm h,List.any_append,List.any_cons,List.any_nil,Bool.or_false]
theorem zAy{p:List Int×List Int→Bool}{l:List (List Int×List Int)}{k:Nat}(h:k<l.length):(l.take (k+1)).any p=((l.take k).any p||p (gL l k)):=by
 rw[← qZz h,List.any_append,List.any_cons,List.any_nil,Bool.or_false]
theorem qPt{α:Type}{p:α→Bool}{l:List α}{x:α}(h:x∈l)(hp:p x=true):l.any p=true:=List.any_eq_true.2 ⟨x,h,hp⟩
end Go.Pl
namespace Go.Proofs.YtlmjdcbhpffanaaGreat
open Go.Sx Go.Pl
set_option linter.unusedVariables false
set_option maxRecDepth 100000
theorem rkS(c:Cir)(K:List It→St→Prop)(R:SV→List HO→Prop):W (xwp Tryz.prog X K55 [] 60 (qK Tryz.f39 [([0,1,0,1,1,1,1],4)] [⟨[0,1,0,1,1,1,1,1,1],[6,1,4],[]⟩,⟨[0,1,0,1,1,1,1,1,1,1],[7,1,4],[]⟩,⟨[0,1,1,1,0,0,1,0,0,1,0,1,1,1,1,1,1,1],[9,8,7,1,4],[]⟩,⟨[0,1,0,1,1,1,1,1,1,1,1],[10,1,4],[]⟩,⟨[0,1,1,1,0,0,1,0,0,1,0,1,1,1,1,1,1,1,1],[12,11,10,1,4],[]⟩]) [] [.at []] ⟨qR 0 [.agg [.v (.int .i64 c.fx),.v (.int .i64 c.ad),.v (.int .i64 c.ins),.x 0 [],.x 1 [],.x 2 [],.x 3 []]],[.ext false (.s false 7 c.nodes.length (cN c.nodes)),.ext false (.s false 1 c.gates.length (cI c.gates)),.ext false (.s false 2 c.looks.length (cL c.looks)),.ext false (.s false 2 c.eqs.length (cK c.eqs))]⟩ K R)=W (∃(l:List Nd),List.length c.4=List.length l∧IsC c.4.length 7 (cN c.4) (cN l)∧List.length l≤4000000000000∧bif !wN l c.1 c.2 c.3==(0:Int) then R (.v (qA (wN l c.1 c.2 c.3))) [] else(∀ M:Mem,0+3≤3)∧(∀ M:Mem,(0:Int)≤(0:Int)∧(0:Int)<(3:Int))∧bif decide (c.1<(0:Int)) then R (.v (qA 120)) [] else(∀ M:Mem,(0:Int)≤(0:Int)∧(0:Int)<(3:Int))∧bif decide ((8:Int)<c.1) then R (.v (qA 120)) [] else(∀ M:Mem,(0:Int)≤(1:Int)∧(1:Int)<(3:Int))∧bif decide (c.2<(0:Int)) then R (.v (qA 120)) [] else(∀ M:Mem,(0:Int)≤(1:Int)∧(1:Int)<(3:Int))∧bif decide ((8:Int)<c.2) then R (.v (qA 120)) [] else(∀ M:Mem,(0:Int)≤(2:Int)∧(2:Int)<(3:Int))∧bif decide (c.3<(0:Int)) then R (.v (qA 120)) [] else(∀ M:Mem,(0:Int)≤(2:Int)∧(2:Int)<(3:Int))∧bif decide ((8:Int)<c.3) then R (.v (qA 120)) [] else bif c.2==(0:Int) then R (.v (qA 120)) [] else bif decide ((16:Int)<(↑c.5.length:Int)) then R (.v (qA 120)) [] else bif decide ((4:Int)<(↑c.6.length:Int)) then R (.v (qA 120)) [] else bif decide ((8:Int)<(↑c.7.length:Int)) then R (.v (qA 120)) [] else K [.at [0,1,0,1,1,1,1,1,1],.blk 2,.at [1,1,1,1,1,1,1]] (St.mk [(6,.v (qA 0)),(1,.p 0 0),(4,.p 1 0)] [.cells [.v (qA c.1),.v (qA c.2),.v (qA c.3),.x 2 [],.x 3 [],.x 4 [],.x 5 []] 27,.cells [.v (qA c.1),.v (qA c.2),.v (qA c.3)] 140,.ext false (.s false 7 c.4.length (cN c.4)),.ext false (.s false 1 c.5.length (cI c.5)),.ext false (.s false 2 c.6.length (cL c.6)),.ext false (.s false 2 c.7.length (cK c.7))])):=by kernel_rfl
theorem rk1(c:Cir)(k M:Nat)(K:List It→St→Prop)(R:SV→List HO→Prop):W (xwp Tryz.prog X K55 [(76,[])] 60 (qK Tryz.f39 [] [⟨[0,1,0,1,1,1,1,1,1],[6,1,4],[]⟩,⟨[0,1,0,1,1,1,1,1,1,1],[7,1,4],[]⟩,⟨[0,1,1,1,0,0,1,0,0,1,0,1,1,1,1,1,1,1],[9,8,7,1,4],[]⟩,⟨[0,1,0,1,1,1,1,1,1,1,1],[10,1,4],[]⟩,⟨[0,1,1,1,0,0,1,0,0,1,0,1,1,1,1,1,1,1,1],[12,11,10,1,4],[]⟩]) [] (.at [0,0,1,0,1,1,1,1,1,1]::.rnd [0,0,1,0,1,1,1,1,1,1] M::[.blk 2,.at [1,1,1,1,1,1,1]]) ⟨[(6,.v (.int .i64 (k:Int))),(1,.p 0 0),(4,.p 1 0)],[.cells [.v (.int .i64 c.fx),.v (.int .i64 c.ad),.v (.int .i64 c.ins),.x 2 [],.x 3 [],.x 4 [],.x 5 []] 27,.cells [.v (.int .i64 c.fx),.v (.int .i64 c.ad),.v (.int .i64 c.ins)] 140,.ext false (.s false 7 c.nodes.length (cN c.nodes)),.ext false (.s false 1 c.gates.length (cI c.gates)),.ext false (.s false 2 c.looks.length (cL c.looks)),.ext false (.s false 2 c.eqs.length (cK c.eqs))]⟩ K R)=W (bif decide ((↑k:Int)<(↑c.5.length:Int)) then(∀ M:Mem,(0:Int)≤(↑k:Int)∧(↑k:Int)<(↑c.5.length:Int))∧(∀ M:Mem,k<List.length c.5)∧bif decide ((0:Int)≤gI c.5 k) then bif !decide (gI c.5 k<(↑c.4.length:Int)) then R (.v (qA 120)) [] else K [.rnd [0,0,1,0,1,1,1,1,1,1] M,.blk 2,.at [1,1,1,1,1,1,1]] (St.mk [(6,.v (qA (IntKind.wrap .i64 ((↑k:Int)+(1:Int))))),(1,.p 0 0),(4,.p 1 0)] [.cells [.v (qA c.1),.v (qA c.2),.v (qA c.3),.x 2 [],.x 3 [],.x 4 [],.x 5 []] 27,.cells [.v (qA c.1),.v (qA c.2),.v (qA c.3)] 140,.ext false (.s false 7 c.4.length (cN c.4)),.ext false (.s false 1 c.5.length (cI c.5)),.ext false (.s false 2 c.6.length (cL c.6)),.ext false (.s false 2 c.7.length (cK c.7))]) else R (.v (qA 120)) [] else K [.at [0,1,0,1,1,1,1,1,1,1],.blk 4,.at [1,1,1,1,1,1,1,1]] (St.mk [(7,.v (qA 0)),(1,.p 0 0),(4,.p 1 0)] [.cells [.v (qA c.1),.v (qA c.2),.v (qA c.3),.x 2 [],.x 3 [],.x 4 [],.x 5 []] 27,.cells [.v (qA c.1),.v (qA c.2),.v (qA c.3)] 140,.ext false (.s false 7 c.4.length (cN c.4)),.ext false (.s false 1 c.5.length (cI c.5)),.ext false (.s false 2 c.6.length (cL c.6)),.ext false (.s false 2 c.7.length (cK c.7))])):=by kernel_rfl
theorem rk2(c:Cir)(k M:Nat)(K:List It→St→Prop)(R:SV→List HO→Prop):W (xwp Tryz.prog X K55 [] 60 (qK Tryz.f39 [] [⟨[0,1,0,1,1,1,1,1,1],[6,1,4],[]⟩,⟨[0,1,0,1,1,1,1,1,1,1],[7,1,4],[]⟩,⟨[0,1,1,1,0,0,1,0,0,1,0,1,1,1,1,1,1,1],[9,8,7,1,4],[]⟩,⟨[0,1,0,1,1,1,1,1,1,1,1],[10,1,4],[]⟩,⟨[0,1,1,1,0,0,1,0,0,1,0,1,1,1,1,1,1,1,1],[12,11,10,1,4],[]⟩]) [] (.at [0,0,1,0,1,1,1,1,1,1,1]::.rnd [0,0,1,0,1,1,1,1,1,1,1] M::[.blk 4,.at [1,1,1,1,1,1,1,1]]) ⟨[(7,.v (.int .i64 (k:Int))),(1,.p 0 0),(4,.p 1 0)],[.cells [.v (.int .i64 c.fx),.v (.int .i64 c.ad),.v (.int .i64 c.ins),.x 2 [],.x 3 [],.x 4 [],.x 5 []] 27,.cells [.v (.int .i64 c.fx),.v (.int .i64 c.ad),.v (.int .i64 c.ins)] 140,.ext false (.s false 7 c.nodes.length (cN c.nodes)),.ext false (.s false 1 c.gates.length (cI c.gates)),.ext false (.s false 2 c.looks.length (cL c.looks)),.ext false (.s false 2 c.eqs.length (cK c.eqs))]⟩ K R)=W (bif decide ((↑k:Int)<(↑c.6.length:Int)) then(∀ M:Mem,(0:Int)≤(↑k:Int)∧(↑k:Int)<(↑c.6.length:Int))∧(∀ M:Mem,k<List.length c.6)∧(∀ M:Mem,0+2≤2)∧(∀ M:Mem,k<List.length c.6)∧bif decide ((↑(List.length (gL c.6 k).1):Int)<(1:Int)) then R (.v (qA 120)) [] else(∀ M:Mem,k<List.length c.6)∧bif decide ((4:Int)<(↑(List.length (gL c.6 k).1):Int)) then R (.v (qA 120)) [] else(∀ M:Mem,k<List.length c.6)∧(∀ M:Mem,k<List.length c.6)∧bif !(↑(List.length (gL c.6 k).2):Int)==(↑(List.length (gL c.6 k).1):Int) then R (.v (qA 120)) [] else K [.at [0,1,1,1,0,0,1,0,0,1,0,1,1,1,1,1,1,1],.blk 6,.blk 5,.at [1,1,0,0,1,0,1,1,1,1,1,1,1],.rnd [0,0,1,0,1,1,1,1,1,1,1] M,.blk 4,.at [1,1,1,1,1,1,1,1]] (St.mk [(9,.v (qA 0)),(8,.p 0 0),(7,.v (qA (↑k:Int))),(1,.p 1 0),(4,.p 2 0)] [.cells [.x 3 [(2,k,0)],.x 3 [(2,k,1)]] 76,.cells [.v (qA c.1),.v (qA c.2),.v (qA c.3),.x 4 [],.x 5 [],.x 3 [],.x 6 []] 27,.cells [.v (qA c.1),.v (qA c.2),.v (qA c.3)] 140,.ext false (.s false 2 c.6.length (cL c.6)),.ext false (.s false 7 c.4.length (cN c.4)),.ext false (.s false 1 c.5.length (cI c.5)),.ext false (.s false 2 c.7.length (cK c.7))]) else K [.at [0,1,0,1,1,1,1,1,1,1,1],.blk 8,.at [1,1,1,1,1,1,1,1,1]] (St.mk [(10,.v (qA 0)),(1,.p 0 0),(4,.p 1 0)] [.cells [.v (qA c.1),.v (qA c.2),.v (qA c.3),.x 2 [],.x 3 [],.x 4 [],.x 5 []] 27,.cells [.v (qA c.1),.v (qA c.2),.v (qA c.3)] 140,.ext false (.s false 7 c.4.length (cN c.4)),.ext false (.s false 1 c.5.length (cI c.5)),.ext false (.s false 2 c.6.length (cL c.6)),.ext false (.s false 2 c.7.length (cK c.7))])):=by kernel_rfl
theorem rk3(c:Cir)(i k M2 M:Nat)(K:List It→St→Prop)(R:SV→List HO→Prop):W (xwp Tryz.prog X K55 [] 60 (qK Tryz.f39 [] [⟨[0,1,0,1,1,1,1,1,1],[6,1,4],[]⟩,⟨[0,1,0,1,1,1,1,1,1,1],[7,1,4],[]⟩,⟨[0,1,1,1,0,0,1,0,0,1,0,1,1,1,1,1,1,1],[9,8,7,1,4],[]⟩,⟨[0,1,0,1,1,1,1,1,1,1,1],[10,1,4],[]⟩,⟨[0,1,1,1,0,0,1,0,0,1,0,1,1,1,1,1,1,1,1],[12,11,10,1,4],[]⟩]) [] (.at [0,0,1,1,1,0,0,1,0,0,1,0,1,1,1,1,1,1,1]::.rnd [0,0,1,1,1,0,0,1,0,0,1,0,1,1,1,1,1,1,1] M::[.blk 6,.blk 5,.at [1,1,0,0,1,0,1,1,1,1,1,1,1],.rnd [0,0,1,0,1,1,1,1,1,1,1] M2,.blk 4,.at [1,1,1,1,1,1,1,1]]) ⟨[(9,.v (.int .i64 (k:Int))),(8,.p 0 0),(7,.v (.int .i64 (i:Int))),(1,.p 1 0),(4,.p 2 0)],[.cells [.x 3 [(2,i,0)],.x 3 [(2,i,1)]] 76,.cells [.v (.int .i64 c.fx),.v (.int .i64 c.ad),.v (.int .i64 c.ins),.x 4 [],.x 5 [],.x 3 [],.x 6 []] 27,.cells [.v (.int .i64 c.fx),.v (.int .i64 c.ad),.v (.int .i64 c.ins)] 140,.ext false (.s false 2 c.looks.length (cL c.looks)),.ext false (.s false 7 c.nodes.length (cN c.nodes)),.ext false (.s false 1 c.gates.length (cI c.gates)),.ext false (.s false 2 c.eqs.length (cK c.eqs))]⟩ K R)=W ((∀ M:Mem,i<List.length c.6)∧bif decide ((↑k:Int)<(↑(List.length (gL c.6 i).1):Int)) then(∀ M:Mem,i<List.length c.6)∧(∀ M:Mem,(0:Int)≤(↑k:Int)∧(↑k:Int)<(↑(List.length (gL c.6 i).1):Int))∧(∀ M:Mem,i<List.length c.6)∧(∀ M:Mem,k<List.length (gL c.6 i).1)∧lC c.1 c.2 c.3 c.4.length c.5.length c.6.length c.7.length (cN c.4) (cI c.5) (cL c.6) (cK c.7) fun(c_1:Cir)=>bif !jI c_1 (gI (gL c.6 i).1 k) then R (.v (qA 120)) [] else(∀ M:Mem,i<List.length c.6)∧(∀ M:Mem,(0:Int)≤(↑k:Int)∧(↑k:Int)<(↑(List.length (gL c.6 i).2):Int))∧(∀ M:Mem,i<List.length c.6)∧(∀ M:Mem,k<List.length (gL c.6 i).2)∧lC c.1 c.2 c.3 c.4.length c.5.length c.6.length c.7.length (cN c.4) (cI c.5) (cL c.6) (cK c.7) fun(c_2:Cir)=>bif !jI c_2 (gI (gL c.6 i).2 k) then R (.v (qA 120)) [] else K [.rnd [0,0,1,1,1,0,0,1,0,0,1,0,1,1,1,1,1,1,1] M,.blk 6,.blk 5,.at [1,1,0,0,1,0,1,1,1,1,1,1,1],.rnd [0,0,1,0,1,1,1,1,1,1,1] M2,.blk 4,.at [1,1,1,1,1,1,1,1]] (St.mk [(9,.v (qA (IntKind.wrap .i64 ((↑k:Int)+(1:Int))))),(8,.p 0 0),(7,.v (qA (↑i:Int))),(1,.p 1 0),(4,.p 2 0)] [.cells [.x 3 [(2,i,0)],.x 3 [(2,i,1)]] 76,.cells [.v (qA c.1),.v (qA c.2),.v (qA c.3),.x 4 [],.x 5 [],.x 3 [],.x 6 []] 27,.cells [.v (qA c.1),.v (qA c.2),.v (qA c.3)] 140,.ext false (.s false 2 c.6.length (cL c.6)),.ext false (.s false 7 c.4.length (cN c.4)),.ext false (.s false 1 c.5.length (cI c.5)),.ext false (.s false 2 c.7.length (cK c.7))]) else K [.rnd [0,0,1,0,1,1,1,1,1,1,1] M2,.blk 4,.at [1,1,1,1,1,1,1,1]] (St.mk [(7,.v (qA (IntKind.wrap .i64 ((↑i:Int)+(1:Int))))),(1,.p 0 0),(4,.p 1 0)] [.cells [.v (qA c.1),.v (qA c.2),.v (qA c.3),.x 2 [],.x 3 [],.x 4 [],.x 5 []] 27,.cells [.v (qA c.1),.v (qA c.2),.v (qA c.3)] 140,.ext false (.s false 7 c.4.length (cN c.4)),.ext false (.s false 1 c.5.length (cI c.5)),.ext false (.s false 2 c.6.length (cL c.6)),.ext false (.s false 2 c.7.length (cK c.7))])):=by kernel_rfl
theorem rk4(c:Cir)(k M:Nat)(K:List It→St→Prop)(R:SV→List HO→Prop):W (xwp Tryz.prog X K55 [] 60 (qK Tryz.f39 [] [⟨[0,1,0,1,1,1,1,1,1],[6,1,4],[]⟩,⟨[0,1,0,1,1,1,1,1,1,1],[7,1,4],[]⟩,⟨[0,1,1,1,0,0,1,0,0,1,0,1,1,1,1,1,1,1],[9,8,7,1,4],[]⟩,⟨[0,1,0,1,1,1,1,1,1,1,1],[10,1,4],[]⟩,⟨[0,1,1,1,0,0,1,0,0,1,0,1,1,1,1,1,1,1,1],[12,11,10,1,4],[]⟩]) [.lo 1 (.v (.int .i64 (qLn c (gK c.eqs k).1)))] (.at [0,0,1,0,1,1,1,1,1,1,1,1]::.rnd [0,0,1,0,1,1,1,1,1,1,1,1] M::[.blk 8,.at [1,1,1,1,1,1,1,1,1]]) ⟨[(10,.v (.int .i64 (k:Int))),(1,.p 0 0),(4,.p 1 0)],[.cells [.v (.int .i64 c.fx),.v (.int .i64 c.ad),.v (.int .i64 c.ins),.x 2 [],.x 3 [],.x 4 [],.x 5 []] 27,.cells [.v (.int .i64 c.fx),.v (.int .i64 c.ad),.v (.int .i64 c.ins)] 140,.ext false (.s false 7 c.nodes.length (cN c.nodes)),.ext false (.s false 1 c.gates.length (cI c.gates)),.ext false (.s false 2 c.looks.length (cL c.looks)),.ext false (.s false 2 c.eqs.length (cK c.eqs))]⟩ K R)=W (bif decide ((↑k:Int)<(↑c.7.length:Int)) then(∀ M:Mem,(0:Int)≤(↑k:Int)∧(↑k:Int)<(↑c.7.length:Int))∧(∀ M:Mem,k<List.length c.7)∧(∀ M:Mem,0+2≤2)∧bif decide ((gK c.7 k).1<(2:Int)) then R (SV.v (qA 120)) [] else bif decide ((4:Int)<(gK c.7 k).1) then R (SV.v (qA 120)) [] else bif decide ((gK c.7 k).2<(0:Int)) then R (SV.v (qA 120)) [] else(∀ M:Mem,(0:Int)≤IntKind.wrap .i64 ((gK c.7 k).1-(2:Int))∧IntKind.wrap .i64 ((gK c.7 k).1-(2:Int))<(3:Int))∧(∀ M:Mem,[SV.v (qA c.1),SV.v (qA c.2),SV.v (qA c.3)][0+Int.toNat (IntKind.wrap .i64 ((gK c.7 k).1-(2:Int)))*1]?=some (SV.v (qA (qLn c (gK c.7 k).1))))∧bif decide (qLn c (gK c.7 k).1≤(gK c.7 k).2) then R (SV.v (qA 120)) [] else K [It.at [0,1,1,1,0,0,1,0,0,1,0,1,1,1,1,1,1,1,1],It.blk 10,It.blk 9,It.at [1,1,0,0,1,0,1,1,1,1,1,1,1,1],It.rnd [0,0,1,0,1,1,1,1,1,1,1,1] M,It.blk 8,It.at [1,1,1,1,1,1,1,1,1]] (St.mk [(12,SV.v (qA 0)),(11,SV.p 0 0),(10,SV.v (qA (↑k:Int))),(1,SV.p 1 0),(4,SV.p 2 0)] [HO.cells [SV.v (qA (gK c.7 k).1),SV.v (qA (gK c.7 k).2)] 107,HO.cells [SV.v (qA c.1),SV.v (qA c.2),SV.v (qA c.3),SV.x 3 [],SV.x 4 [],SV.x 5 [],SV.x 6 []] 27,HO.cells [SV.v (qA c.1),SV.v (qA c.2),SV.v (qA c.3)] 140,HO.ext false (qG.s false 7 c.4.length (cN c.4)),HO.ext false (qG.s false 1 c.5.length (cI c.5)),HO.ext false (qG.s false 2 c.6.length (cL c.6)),HO.ext false (qG.s false 2 c.7.length (cK c.7))]) else lC c.1 c.2 c.3 c.4.length c.5.length c.6.length c.7.length (cN c.4) (cI c.5) (cL c.6) (cK c.7) fun(c:Cir)=>(qBo c (qP c.4)∧∀(x:List Int×List Int),x∈c.6→List.length x.2=List.length x.1)∧bif decide ((8:Int)<qEe c (qP c.4)) then R (SV.v (qA 120)) [] else R (SV.v (qA 0)) []):=by kernel_rfl
theorem rk5(c:Cir)(i k M2 M:Nat)(K:List It→St→Prop)(R:SV→List HO→Prop):W (xwp Tryz.prog X K55 [] 60 (qK Tryz.f39 [] [⟨[0,1,0,1,1,1,1,1,1],[6,1,4],[]⟩,⟨[0,1,0,1,1,1,1,1,1,1],[7,1,4],[]⟩,⟨[0,1,1,1,0,0,1,0,0,1,0,1,1,1,1,1,1,1],[9,8,7,1,4],[]⟩,⟨[0,1,0,1,1,1,1,1,1,1,1],[10,1,4],[]⟩,⟨[0,1,1,1,0,0,1,0,0,1,0,1,1,1,1,1,1,1,1],[12,11,10,1,4],[]⟩]) [] (.at [0,0,1,1,1,0,0,1,0,0,1,0,1,1,1,1,1,1,1,1]::.rnd [0,0,1,1,1,0,0,1,0,0,1,0,1,1,1,1,1,1,1,1] M::[.blk 10,.blk 9,.at [1,1,0,0,1,0,1,1,1,1,1,1,1,1],.rnd [0,0,1,0,1,1,1,1,1,1,1,1] M2,.blk 8,.at [1,1,1,1,1,1,1,1,1]]) ⟨[(12,.v (.int .i64 (k:Int))),(11,.p 0 0),(10,.v (.int .i64 (i:Int))),(1,.p 1 0),(4,.p 2 0)],[.cells [.v (.int .i64 (gK c.eqs i).1),.v (.int .i64 (gK c.eqs i).2)] 107,.cells [.v (.int .i64 c.fx),.v (.int .i64 c.ad),.v (.int .i64 c.ins),.x 3 [],.x 4 [],.x 5 [],.x 6 []] 27,.cells [.v (.int .i64 c.fx),.v (.int .i64 c.ad),.v (.int .i64 c.ins)] 140,.ext false (.s false 7 c.nodes.length (cN c.nodes)),.ext false (.s false 1 c.gates.length (cI c.gates)),.ext false (.s false 2 c.looks.length (cL c.looks)),.ext false (.s false 2 c.eqs.length (cK c.eqs))]⟩ K R)=W (bif decide ((↑k:Int)<(↑i:Int)) then(∀ M:Mem,(0:Int)≤(↑k:Int)∧(↑k:Int)<(↑c.7.length:Int))∧(∀ M:Mem,k<List.length c.7)∧bif decide ([(gK c.7 k).1,(gK c.7 k).2]=[(gK c.7 i).1,(gK c.7 i).2]) then R (.v (qA 120)) [] else K [.rnd [0,0,1,1,1,0,0,1,0,0,1,0,1,1,1,1,1,1,1,1] M,.blk 10,.blk 9,.at [1,1,0,0,1,0,1,1,1,1,1,1,1,1],.rnd [0,0,1,0,1,1,1,1,1,1,1,1] M2,.blk 8,.at [1,1,1,1,1,1,1,1,1]] (St.mk [(12,.v (qA (IntKind.wrap .i64 ((↑k:Int)+(1:Int))))),(11,.p 0 0),(10,.v (qA (↑i:Int))),(1,.p 1 0),(4,.p 2 0)] [.cells [.v (qA (gK c.7 i).1),.v (qA (gK c.7 i).2)] 107,.cells [.v (qA c.1),.v (qA c.2),.v (qA c.3),.x 3 [],.x 4 [],.x 5 [],.x 6 []] 27,.cells [.v (qA c.1),.v (qA c.2),.v (qA c.3)] 140,.ext false (.s false 7 c.4.length (cN c.4)),.ext false (.s false 1 c.5.length (cI c.5)),.ext false (.s false 2 c.6.length (cL c.6)),.ext false (.s false 2 c.7.length (cK c.7))]) else K [.rnd [0,0,1,0,1,1,1,1,1,1,1,1] M2,.blk 8,.at [1,1,1,1,1,1,1,1,1]] (St.mk [(10,.v (qA (IntKind.wrap .i64 ((↑i:Int)+(1:Int))))),(1,.p 0 0),(4,.p 1 0)] [.cells [.v (qA c.1),.v (qA c.2),.v (qA c.3),.x 2 [],.x 3 [],.x 4 [],.x 5 []] 27,.cells [.v (qA c.1),.v (qA c.2),.v (qA c.3)] 140,.ext false (.s false 7 c.4.length (cN c.4)),.ext false (.s false 1 c.5.length (cI c.5)),.ext false (.s false 2 c.6.length (cL c.6)),.ext false (.s false 2 c.7.length (cK c.7))])):=by kernel_rfl
theorem zIp(c:Cir)(hc:c.ok)(i M2:Nat)(hi:i<c.eqs.length)(Q:SV→List HO→Prop)(no:(∃ j,j<i∧gK c.eqs j=gK c.eqs i)→Q (.v (.int .i64 120)) [])(next:(¬ ∃ j,j<i∧gK c.eqs j=gK c.eqs i)→FOk Tryz.prog Tryz.f39 Q (.rnd [0,0,1,0,1,1,1,1,1,1,1,1] M2::[.blk 8,.at [1,1,1,1,1,1,1,1,1]]) ⟨[(10,.v (.int .i64 ((i+1:Nat):Int))),(1,.p 0 0),(4,.p 1 0)],[.cells [.v (.int .i64 c.fx),.v (.int .i64 c.ad),.v (.int .i64 c.ins),.x 2 [],.x 3 [],.x 4 [],.x 5 []] 27,.cells [.v (.int .i64 c.fx),.v (.int .i64 c.ad),.v (.int .i64 c.ins)] 140,.ext false (.s false 7 c.nodes.length (cN c.nodes)),.ext false (.s false 1 c.gates.length (cI c.gates)),.ext false (.s false 2 c.looks.length (cL c.looks)),.ext false (.s false 2 c.eqs.length (cK c.eqs))]⟩):∀(d k:Nat),k+d=i→(∀ j,j<k→gK c.eqs j≠gK c.eqs i) →
  FOk Tryz.prog Tryz.f39 Q (.rnd [0,0,1,1,1,0,0,1,0,0,1,0,1,1,1,1,1,1,1,1] (d+1)::[.blk 10,.blk 9,.at [1,1,0,0,1,0,1,1,1,1,1,1,1,1],.rnd [0,0,1,0,1,1,1,1,1,1,1,1] M2,.blk 8,.at [1,1,1,1,1,1,1,1,1]]) ⟨[(12,.v (.int .i64 (k:Int))),(11,.p 0 0),(10,.v (.int .i64 (i:Int))),(1,.p 1 0),(4,.p 2 0)],[.cells [.v (.int .i64 (gK c.eqs i).1),.v (.int .i64 (gK c.eqs i).2)] 107,.cells [.v (.int .i64 c.fx),.v (.int .i64 c.ad),.v (.int .i64 c.ins),.x 3 [],.x 4 [],.x 5 [],.x 6 []] 27,.cells [.v (.int .i64 c.fx),.v (.int .i64 c.ad),.v (.int .i64 c.ins)] 140,.ext false (.s false 7 c.nodes.length (cN c.nodes)),.ext false (.s false 1 c.gates.length (cI c.gates)),.ext false (.s false 2 c.looks.length (cL c.looks)),.ext false (.s false 2 c.eqs.length (cK c.eqs))]⟩
 | 0,k,hd,he=>by
  have h1:=hc.e.2
  refine FOk.rnd (qD hm 60 ((rk5 c i k M2 0 _ _).mpr ⟨?_⟩))
  rw[qF,if_neg (by omega),qL i (by omega)]
  exact next fun⟨j,hj,e⟩=>he j (by omega) e
 | d+1,k,hd,he=>by
  have h1:=hc.e.2
  refine FOk.rnd (qD hm 60 ((rk5 c i k M2 (d+1) _ _).mpr ⟨?_⟩))
  rw[qF,if_pos (by omega),qL k (by omega),qF]
  refine aI (aI (qE (fun h=>?_) (fun h=>?_)))
  ·exact no ⟨k,by omega,qRf.1 h⟩
  ·refine zIp c hc i M2 hi Q no next d (k+1) (by omega) fun j hj=>?_
   by_cases hjk:j=k
   ·rw[hjk]; exact fun e=>h (qRf.2 e)
   ·exact he j (by omega)
theorem zEa(c:Cir)(hc:c.ok)(h0:wN c.nodes c.fx c.ad c.ins=0)(hct:qJl c=true)(hg:c.gates.any (fun n=>!yL c n)=false)(hl:c.looks.any (fun x=>!jF c x)=false)(Q:SV→List HO→Prop)(yes:jU c=true→Q (.v (.int .i64 0)) [])(no:jU c=false→Q (.v (.int .i64 120)) []):∀(d k:Nat),k+d=c.eqs.length→eqF c [] c.eqs=eqF c (c.eqs.take k) (c.eqs.drop k) →
  FOk Tryz.prog Tryz.f39 Q (.rnd [0,0,1,0,1,1,1,1,1,1,1,1] (d+1)::[.blk 8,.at [1,1,1,1,1,1,1,1,1]]) ⟨[(10,.v (.int .i64 (k:Int))),(1,.p 0 0),(4,.p 1 0)],[.cells [.v (.int .i64 c.fx),.v (.int .i64 c.ad),.v (.int .i64 c.ins),.x 2 [],.x 3 [],.x 4 [],.x 5 []] 27,.cells [.v (.int .i64 c.fx),.v (.int .i64 c.ad),.v (.int .i64 c.ins)] 140,.ext false (.s false 7 c.nodes.length (cN c.nodes)),.ext false (.s false 1 c.gates.length (cI c.gates)),.ext false (.s false 2 c.looks.length (cL c.looks)),.ext false (.s false 2 c.eqs.length (cK c.eqs))]⟩
 | 0,k,hd,he=>by
  refine FOk.rnd (qD hm 60 ((rk4 c k 0 _ _).mpr ⟨?_⟩))
  rw[qF,if_neg (by omega)]
  rw[show k=c.eqs.length by omega,List.drop_length,eqF] at he
  refine wS c hc ⟨⟨qVa h0 hg hl,fun x hx=>(qBn (qBq hl x hx)).2.2.2.2⟩,?_⟩
  rw[qF]
  refine qE (fun h=>no ?_) (fun h=>yes ?_)
  ·rw[jU,decide_eq_false (by omega)]; simp
  ·rw[jU,hct,hg,hl,he,decide_eq_true (by omega)]; rfl
 | d+1,k,hd,he=>by
  have hk:k<c.eqs.length:=by omega
  rw[qYl hk,eqF] at he
  have bad:(okK c (gK c.eqs k)&&!decide (gK c.eqs k∈c.eqs.take k))=false→Q (.v (.int .i64 120)) []:=fun h=>no (by rw[jU,he,h]; simp)
  refine FOk.rnd (qD hm 60 ((rk4 c k (d+1) _ _).mpr ⟨?_⟩))
  rw[qF,if_pos (by omega)]
  simp only[qF]
  refine aI (aI (aI (qE (fun h1=>bad ?_) (fun h1=>qE (fun h2=>bad ?_) (fun h2=>qE (fun h3=>bad ?_) (fun h3=>And.intro (fun _=>?_) (And.intro (fun _=>?_) (qE (fun h4=>bad ?_) (fun h4=>?_)))))))))
  ·rw[okK,decide_eq_false (by omega)]; rfl
  ·rw[okK,decide_eq_false (by omega)]; rfl
  ·rw[okK,decide_eq_false (by omega)]; rfl
  ·rw[jB ((gK c.eqs k).1-2) (by omega)]; omega
  ·exact zLx c (by omega) (by omega)
  ·rw[okK,decide_eq_false (by omega)]; rfl
  ·refine FOk.loop (k+1) (by kernel_rfl) (zIp c hc k (d+1) hk Q (fun hx=>bad ?_) (fun hx=>?_) k 0 (by omega) (fun j hj=>by omega))
   ·rw[decide_eq_true ((qNy hk).2 hx)]; simp
   ·refine zEa c hc h0 hct hg hl Q yes no d (k+1) (by omega) ?_
    rw[he,okK,decide_eq_true (by omega),decide_eq_false (fun hh=>hx ((qNy hk).1 hh)),qPp hk]; rfl
theorem zDw(c:Cir)(hc:c.ok)(i M2:Nat)(hi:i<c.looks.length)(hA:1≤(gL c.looks i).1.length∧(gL c.looks i).1.length≤4∧(gL c.looks i).2.length=(gL c.looks i).1.length)(Q:SV→List HO→Prop)(no:jF c (gL c.looks i)=false→Q (.v (.int .i64 120)) [])(next:jF c (gL c.looks i)=true→FOk Tryz.prog Tryz.f39 Q (.rnd [0,0,1,0,1,1,1,1,1,1,1] M2::[.blk 4,.at [1,1,1,1,1,1,1,1]]) ⟨[(7,.v (.int .i64 ((i+1:Nat):Int))),(1,.p 0 0),(4,.p 1 0)],[.cells [.v (.int .i64 c.fx),.v (.int .i64 c.ad),.v (.int .i64 c.ins),.x 2 [],.x 3 [],.x 4 [],.x 5 []] 27,.cells [.v (.int .i64 c.fx),.v (.int .i64 c.ad),.v (.int .i64 c.ins)] 140,.ext false (.s false 7 c.nodes.length (cN c.nodes)),.ext false (.s false 1 c.gates.length (cI c.gates)),.ext false (.s false 2 c.looks.length (cL c.looks)),.ext false (.s false 2 c.eqs.length (cK c.eqs))]⟩):∀(d k:Nat),k+d=(gL c.looks i).1.length→((gL c.looks i).1.take k).any (fun n=>!jI c n)=false→((gL c.looks i).2.take k).any (fun n=>!jI c n)=false →
  FOk Tryz.prog Tryz.f39 Q (.rnd [0,0,1,1,1,0,0,1,0,0,1,0,1,1,1,1,1,1,1] (d+1)::[.blk 6,.blk 5,.at [1,1,0,0,1,0,1,1,1,1,1,1,1],.rnd [0,0,1,0,1,1,1,1,1,1,1] M2,.blk 4,.at [1,1,1,1,1,1,1,1]]) ⟨[(9,.v (.int .i64 (k:Int))),(8,.p 0 0),(7,.v (.int .i64 (i:Int))),(1,.p 1 0),(4,.p 2 0)],[.cells [.x 3 [(2,i,0)],.x 3 [(2,i,1)]] 76,.cells [.v (.int .i64 c.fx),.v (.int .i64 c.ad),.v (.int .i64 c.ins),.x 4 [],.x 5 [],.x 3 [],.x 6 []] 27,.cells [.v (.int .i64 c.fx),.v (.int .i64 c.ad),.v (.int .i64 c.ins)] 140,.ext false (.s false 2 c.looks.length (cL c.looks)),.ext false (.s false 7 c.nodes.length (cN c.nodes)),.ext false (.s false 1 c.gates.length (cI c.gates)),.ext false (.s false 2 c.eqs.length (cK c.eqs))]⟩
 | 0,k,hd,e1,e2=>by
  have h1:=hc.l.2
  refine FOk.rnd (qD hm 60 ((rk3 c i k M2 0 _ _).mpr ⟨?_⟩))
  refine And.intro (fun _=>hi) ?_
  rw[qF,if_neg (by omega),qL i (by omega)]
  rw[show k=(gL c.looks i).1.length by omega,List.take_length] at e1
  rw[show k=(gL c.looks i).2.length by omega,List.take_length] at e2
  exact next (by rw[jF,e1,e2,decide_eq_true hA]; rfl)
 | d+1,k,hd,e1,e2=>by
  have hk:k<(gL c.looks i).1.length:=by omega
  have hk2:k<(gL c.looks i).2.length:=by omega
  refine FOk.rnd (qD hm 60 ((rk3 c i k M2 (d+1) _ _).mpr ⟨?_⟩))
  refine And.intro (fun _=>hi) ?_
  rw[qF,if_pos (by omega),qL k (by omega)]
  refine aI (aI (aI (aI (wS c hc (qM (fun h=>no ?_) (fun h=>aI (aI (aI (aI (wS c hc (qM (fun h2=>no ?_) (fun h2=>?_))))))))))))
  ·rw[jF,qPt (xI hk) h]; simp
  ·rw[jF,qPt (xI hk2) h2]; simp
  ·exact zDw c hc i M2 hi hA Q no next d (k+1) (by omega) (by rw[qIf hk,e1,h]; rfl) (by rw[qIf hk2,e2,h2]; rfl)
theorem qSi(c:Cir)(hc:c.ok)(h0:wN c.nodes c.fx c.ad c.ins=0)(hct:qJl c=true)(hg:c.gates.any (fun n=>!yL c n)=false)(Q:SV→List HO→Prop)(yes:jU c=true→Q (.v (.int .i64 0)) [])(no:jU c=false→Q (.v (.int .i64 120)) []):∀(d k:Nat),k+d=c.looks.length→(c.looks.take k).any (fun x=>!jF c x)=false →
  FOk Tryz.prog Tryz.f39 Q (.rnd [0,0,1,0,1,1,1,1,1,1,1] (d+1)::[.blk 4,.at [1,1,1,1,1,1,1,1]]) ⟨[(7,.v (.int .i64 (k:Int))),(1,.p 0 0),(4,.p 1 0)],[.cells [.v (.int .i64 c.fx),.v (.int .i64 c.ad),.v (.int .i64 c.ins),.x 2 [],.x 3 [],.x 4 [],.x 5 []] 27,.cells [.v (.int .i64 c.fx),.v (.int .i64 c.ad),.v (.int .i64 c.ins)] 140,.ext false (.s false 7 c.nodes.length (cN c.nodes)),.ext false (.s false 1 c.gates.length (cI c.gates)),.ext false (.s false 2 c.looks.length (cL c.looks)),.ext false (.s false 2 c.eqs.length (cK c.eqs))]⟩
 | 0,k,hd,he=>by
  refine FOk.rnd (qD hm 60 ((rk2 c k 0 _ _).mpr ⟨?_⟩))
  rw[qF,if_neg (by omega)]
  rw[show k=c.looks.length by omega,List.take_length] at he
  exact FOk.loop (c.eqs.length+1) (by kernel_rfl) (zEa c hc h0 hct hg he Q yes no c.eqs.length 0 (by omega) rfl)
 | d+1,k,hd,he=>by
  have hk:k<c.looks.length:=by omega
  have bad:jF c (gL c.looks k)=false→Q (.v (.int .i64 120)) []:=fun h=>no (by
   have:c.looks.any (fun x=>!jF c x)=true:=qPt (wY hk) (by rw[h]; rfl)
   rw[jU,this]; simp)
  refine FOk.rnd (qD hm 60 ((rk2 c k (d+1) _ _).mpr ⟨?_⟩))
  rw[qF,if_pos (by omega)]
  simp only[qF,qN,qT]
  refine aI (aI (aI (aI (qE (fun h1=>bad ?_) (fun h1=>aI (qE (fun h2=>bad ?_) (fun h2=>aI (aI (qE (fun h3=>?_) (fun h3=>bad ?_))))))))))
  ·rw[jF,decide_eq_false (by omega)]; rfl
  ·rw[jF,decide_eq_false (by omega)]; rfl
  ·exact FOk.loop ((gL c.looks k).1.length+1) (by kernel_rfl) (zDw c hc k (d+1) hk ⟨by omega,by omega,by omega⟩ Q bad (fun h=>qSi c hc h0 hct hg Q yes no d (k+1) (by omega) (by rw[zAy hk,he,h]; rfl)) (gL c.looks k).1.length 0 (by omega) rfl rfl)
  ·rw[jF,decide_eq_false (by omega)]; rfl
theorem qRz(c:Cir)(hc:c.ok)(h0:wN c.nodes c.fx c.ad c.ins=0)(hct:qJl c=true)(Q:SV→List HO→Prop)(yes:jU c=true→Q (.v (.int .i64 0)) [])(no:jU c=false→Q (.v (.int .i64 120)) []):∀(d k:Nat),k+d=c.gates.length→(c.gates.take k).any (fun n=>!yL c n)=false →
  FOk Tryz.prog Tryz.f39 Q (.rnd [0,0,1,0,1,1,1,1,1,1] (d+1)::[.blk 2,.at [1,1,1,1,1,1,1]]) ⟨[(6,.v (.int .i64 (k:Int))),(1,.p 0 0),(4,.p 1 0)],[.cells [.v (.int .i64 c.fx),.v (.int .i64 c.ad),.v (.int .i64 c.ins),.x 2 [],.x 3 [],.x 4 [],.x 5 []] 27,.cells [.v (.int .i64 c.fx),.v (.int .i64 c.ad),.v (.int .i64 c.ins)] 140,.ext false (.s false 7 c.nodes.length (cN c.nodes)),.ext false (.s false 1 c.gates.length (cI c.gates)),.ext false (.s false 2 c.looks.length (cL c.looks)),.ext false (.s false 2 c.eqs.length (cK c.eqs))]⟩
 | 0,k,hd,he=>by
  refine FOk.rnd (qD hm 60 ((rk1 c k 0 _ _).mpr ⟨?_⟩))
  rw[qF,if_neg (by omega)]
  rw[show k=c.gates.length by omega,List.take_length] at he
  exact FOk.loop (c.looks.length+1) (by kernel_rfl) (qSi c hc h0 hct he Q yes no c.looks.length 0 (by omega) rfl)
 | d+1,k,hd,he=>by
  have hk:k<c.gates.length:=by omega
  have h1:=hc.g.2
  have bad:yL c (gI c.gates k)=false→Q (.v (.int .i64 120)) []:=fun h=>no (by
   have:c.gates.any (fun n=>!yL c n)=true:=qPt (xI hk) (by rw[h]; rfl)
   rw[jU,this]; simp)
  refine FOk.rnd (qD hm 60 ((rk1 c k (d+1) _ _).mpr ⟨?_⟩))
  rw[qF,if_pos (by omega),qL k (by omega)]
  simp only[qF,qN]
  refine aI (aI (qE (fun h1=>qE (fun h2=>?_) (fun h2=>bad (decide_eq_false (by omega)))) (fun h1=>bad (decide_eq_false (by omega)))))
  exact qRz c hc h0 hct Q yes no d (k+1) (by omega) (by rw[qIf hk,he,yL,decide_eq_true ⟨h1,h2⟩]; rfl)
theorem bRk:Tryz.f39.body.isSome=true:=by kernel_rfl
theorem nRk(c:Cir):Nat.ble [(.agg [.v (.int .i64 c.fx),.v (.int .i64 c.ad),.v (.int .i64 c.ins),.x 0 [],.x 1 [],.x 2 [],.x 3 []]:SV)].length Tryz.f39.ntmps=true:=by kernel_rfl
theorem zRg(c:Cir)(hc:c.ok)(Q:SV→List HO→Prop)(hq:Q (.v (.int .i64 (zY c))) []):qI Tryz.prog 39 [.agg [.v (.int .i64 c.fx),.v (.int .i64 c.ad),.v (.int .i64 c.ins),.x 0 [],.x 1 [],.x 2 [],.x 3 []]] [.ext false (.s false 7 c.nodes.length (cN c.nodes)),.ext false (.s false 1 c.gates.length (cI c.gates)),.ext false (.s false 2 c.looks.length (cL c.looks)),.ext false (.s false 2 c.eqs.length (cK c.eqs))] Q:=by
 refine qJ Tryz.func39 bRk ?_ ?_
 ·exact nRk c
 have h1:=hc.n.2
 refine qD hm 60 ((rkS c _ _).mpr ⟨?_⟩)
 refine⟨c.nodes,rfl,IsC.refl _ _ _,by omega,?_⟩
 simp only[qF,qN,qT]
 refine qE (fun h0=>?_) (fun h0=>?_)
 ·have no:jU c=false→Q (.v (.int .i64 120)) []:=fun h=>by
   rw[(qUy h0 h).1] at hq
   exact hq
  have yes:jU c=true→Q (.v (.int .i64 0)) []:=fun h=>by
   rw[(qOc h0 h).1] at hq
   exact hq
  have bad:¬ qFs c→Q (.v (.int .i64 120)) []:=fun h=>no (by rw[jU,qJl,decide_eq_false h]; rfl)
  have go:qFs c→FOk Tryz.prog Tryz.f39 Q (.rnd [0,0,1,0,1,1,1,1,1,1] (c.gates.length+1)::[.blk 2,.at [1,1,1,1,1,1,1]]) ⟨[(6,.v (.int .i64 ((0:Nat):Int))),(1,.p 0 0),(4,.p 1 0)],[.cells [.v (.int .i64 c.fx),.v (.int .i64 c.ad),.v (.int .i64 c.ins),.x 2 [],.x 3 [],.x 4 [],.x 5 []] 27,.cells [.v (.int .i64 c.fx),.v (.int .i64 c.ad),.v (.int .i64 c.ins)] 140,.ext false (.s false 7 c.nodes.length (cN c.nodes)),.ext false (.s false 1 c.gates.length (cI c.gates)),.ext false (.s false 2 c.looks.length (cL c.looks)),.ext false (.s false 2 c.eqs.length (cK c.eqs))]⟩:=fun h =>
   qRz c hc h0 (decide_eq_true h) Q yes no c.gates.length 0 (by omega) rfl
  unfold qFs at bad go
  clear hq yes no
  repeat' (first | refine And.intro (fun _=>by omega) ?_ | refine qE (fun _=>?_) (fun _=>?_))
  all_goals first
   | (refine bad (fun h=>?_); omega)
   | exact FOk.loop (c.gates.length+1) (by kernel_rfl) (go (by omega))
 ·rw[zY,if_neg h0] at hq
  exact hq
noncomputable def gRk:List SV→List HO→Option ((SV→List HO→Prop)→Prop)
 | [.agg [.v (.int .i64 fx),.v (.int .i64 ad),.v (.int .i64 ins),.x 0 [],.x 1 [],.x 2 [],.x 3 []]],[.ext false (.s false 7 n0 c0),.ext false (.s false 1 n1 c1),.ext false (.s false 2 n2 c2),.ext false (.s false 2 n3 c3)] =>
  some fun Q=>lC fx ad ins n0 n1 n2 n3 c0 c1 c2 c3 fun c=>Q (.v (.int .i64 (zY c))) []
 | _,_=>none
theorem zLs(args:List SV)(h:List HO)(tr:(SV→List HO→Prop)→Prop)(Q:SV→List HO→Prop)(hc:gRk args h=some tr)(ht:tr Q):qI Tryz.prog 39 args h Q:=by
 unfold gRk at hc
 split at hc
 ·rename_i fx ad ins n0 c0 n1 c1 n2 c2 n3 c3
  simp only[sI] at hc
  subst hc
  obtain⟨c,rfl,rfl,rfl,⟨rfl,e0⟩,⟨rfl,e1⟩,⟨rfl,e2⟩,⟨rfl,e3⟩,hk,hq⟩:=ht.h
  exact qI.ac (zRg c hk Q hq) ⟨⟨rfl,rfl,rfl,rfl,e0⟩,⟨rfl,rfl,rfl,rfl,e1⟩,⟨rfl,rfl,rfl,rfl,e2⟩,⟨rfl,rfl,rfl,rfl,e3⟩,trivial⟩
 ·cases hc
noncomputable def K56:Con Tryz.prog:=K55.add 39 gRk zLs
end Go.Proofs.YtlmjdcbhpffanaaGreat
/- Degree and Rows, by the document; great. -/
namespace Go.Pl
open Go.Sx
theorem xV{c:Cir}(h:zY c=0):wN c.nodes c.fx c.ad c.ins=0∧jU c=true:=by
 rw[zY] at h
 split at h
 ·rename_i h0
  refine⟨h0,?_⟩
  cases hg:jU c with
  | true=>rfl
  | false=>rw[hg] at h; cases h
 ·rename_i h0; exact absurd h h0
theorem qEx{c:Cir}(h:jU c=true):qJl c=true∧c.gates.any (fun n=>!yL c n)=false∧c.looks.any (fun x=>!jF c x)=false∧eqF c [] c.eqs=true∧qEe c (qP c.nodes)≤8:=by
 simp only[jU,Bool.and_eq_true,Bool.not_eq_true',decide_eq_true_eq] at h
 exact⟨h.1.1.1.1,h.1.1.1.2,h.1.1.2,h.1.2,h.2⟩
end Go.Pl
namespace Go.Proofs.YtlmjdcbhpffanaaGreat
open Go.Sx Go.Pl
set_option linter.unusedVariables false
set_option maxRecDepth 100000
theorem rrS(c:Cir)(k x:Int)(K:List It→St→Prop)(R:SV→List HO→Prop):W (xwp Tryz.prog X K56 [(76,[])] 60 (qK Tryz.f64 [] [⟨[0,1,0,1,1,1,1,1],[11,10,9,8,1],[]⟩]) [] [.at []] ⟨qR 0 [.agg [.v (.int .i64 c.fx),.v (.int .i64 c.ad),.v (.int .i64 c.ins),.x 0 [],.x 1 [],.x 2 [],.x 3 []],.v (.int .i64 k),.v (.int .i64 x)],[.ext false (.s false 7 c.nodes.length (cN c.nodes)),.ext false (.s false 1 c.gates.length (cI c.gates)),.ext false (.s false 2 c.looks.length (cL c.looks)),.ext false (.s false 2 c.eqs.length (cK c.eqs))]⟩ K R)=W (lC c.1 c.2 c.3 c.4.length c.5.length c.6.length c.7.length (cN c.4) (cI c.5) (cL c.6) (cK c.7) fun(c_1:Cir)=>bif !zY c_1==(0:Int) then R (.tup [.v (qA 0),.v (qA 0)]) [] else bif decide ((0:Int)≤x) then bif !decide (x<(↑c.4.length:Int)) then R (.tup [.v (qA 0),.v (qA 0)]) [] else lC c.1 c.2 c.3 c.4.length c.5.length c.6.length c.7.length (cN c.4) (cI c.5) (cL c.6) (cK c.7) fun(c:Cir)=>K [.at [0,1,0,1,1,1,1,1],.blk 0,.at [1,1,1,1,1,1]] (St.mk [(11,.v (qA 0)),(10,.v (qA (usN k))),(9,.v (qA 0)),(8,.o 0),(1,.v (qA k))] [.rowc 156 3 (List.length (zS c x)) (.fn (cQ (zS c x)))]) else R (.tup [.v (qA 0),.v (qA 0)]) []):=by kernel_rfl
theorem rrR(l:List (Int×Int×Int))(f t kk:Int)(k M:Nat)(K:List It→St→Prop)(R:SV→List HO→Prop):W (xwp Tryz.prog X K56 [] 60 (qK Tryz.f64 [] [⟨[0,1,0,1,1,1,1,1],[11,10,9,8,1],[]⟩]) [] (.at [0,0,1,0,1,1,1,1,1]::.rnd [0,0,1,0,1,1,1,1,1] M::[.blk 0,.at [1,1,1,1,1,1]]) ⟨[(11,.v (.int .i64 (k:Int))),(10,.v (.int .i64 t)),(9,.v (.int .i64 f)),(8,.o 0),(1,.v (.int .i64 kk))],[.rowc 156 3 l.length (.fn (cQ l))]⟩ K R)=W (bif decide ((↑k:Int)<(↑l.length:Int)) then(∀ M:Mem,(0:Int)≤(↑k:Int)∧(↑k:Int)<(↑l.length:Int))∧(∀ M:Mem,k<List.length l)∧(∀ M:Mem,k<List.length l)∧bif decide (f<IntKind.wrap .i64 ((0:Int)-(gQ l k).2.2)) then(∀ M:Mem,(0:Int)≤(↑k:Int)∧(↑k:Int)<(↑l.length:Int))∧(∀ M:Mem,k<List.length l)∧(∀ M:Mem,k<List.length l)∧(∀ M:Mem,(0:Int)≤(↑k:Int)∧(↑k:Int)<(↑l.length:Int))∧(∀ M:Mem,k<List.length l)∧(∀ M:Mem,k<List.length l)∧bif decide (IntKind.wrap .i64 (usN kk-(gQ l k).2.2)<t) then(∀ M:Mem,(0:Int)≤(↑k:Int)∧(↑k:Int)<(↑l.length:Int))∧(∀ M:Mem,k<List.length l)∧(∀ M:Mem,k<List.length l)∧K [.rnd [0,0,1,0,1,1,1,1,1] M,.blk 0,.at [1,1,1,1,1,1]] (St.mk [(11,.v (qA (IntKind.wrap .i64 ((↑k:Int)+(1:Int))))),(10,.v (qA (IntKind.wrap .i64 (usN kk-(gQ l k).2.2)))),(9,.v (qA (IntKind.wrap .i64 ((0:Int)-(gQ l k).2.2)))),(8,.o 0),(1,.v (qA kk))] [.rowc 156 3 l.length (.fn (cQ l))]) else K [.rnd [0,0,1,0,1,1,1,1,1] M,.blk 0,.at [1,1,1,1,1,1]] (St.mk [(11,.v (qA (IntKind.wrap .i64 ((↑k:Int)+(1:Int))))),(10,.v (qA t)),(9,.v (qA (IntKind.wrap .i64 ((0:Int)-(gQ l k).2.2)))),(8,.o 0),(1,.v (qA kk))] [.rowc 156 3 l.length (.fn (cQ l))]) else(∀ M:Mem,(0:Int)≤(↑k:Int)∧(↑k:Int)<(↑l.length:Int))∧(∀ M:Mem,k<List.length l)∧(∀ M:Mem,k<List.length l)∧bif decide (IntKind.wrap .i64 (usN kk-(gQ l k).2.2)<t) then(∀ M:Mem,(0:Int)≤(↑k:Int)∧(↑k:Int)<(↑l.length:Int))∧(∀ M:Mem,k<List.length l)∧(∀ M:Mem,k<List.length l)∧K [.rnd [0,0,1,0,1,1,1,1,1] M,.blk 0,.at [1,1,1,1,1,1]] (St.mk [(11,.v (qA (IntKind.wrap .i64 ((↑k:Int)+(1:Int))))),(10,.v (qA (IntKind.wrap .i64 (usN kk-(gQ l k).2.2)))),(9,.v (qA f)),(8,.o 0),(1,.v (qA kk))] [.rowc 156 3 l.length (.fn (cQ l))]) else K [.rnd [0,0,1,0,1,1,1,1,1] M,.blk 0,.at [1,1,1,1,1,1]] (St.mk [(11,.v (qA (IntKind.wrap .i64 ((↑k:Int)+(1:Int))))),(10,.v (qA t)),(9,.v (qA f)),(8,.o 0),(1,.v (qA kk))] [.rowc 156 3 l.length (.fn (cQ l))]) else bif decide (t≤f) then R (.tup [.v (qA 0),.v (qA 0)]) [] else R (.tup [.v (qA f),.v (qA t)]) []):=by kernel_rfl
theorem qYj(l:List (Int×Int×Int))(hl:l.length≤4398046511104)(kk:Int)(Q:SV→List HO→Prop)(hq:Q (.tup [.v (.int .i64 (qIs l kk).1),.v (.int .i64 (qIs l kk).2)]) []):∀(d k:Nat) (f t:Int),k+d=l.length→f=(l.take k).foldl frQ 0→t=(l.take k).foldl (toQ kk) (usN kk) →
  FOk Tryz.prog Tryz.f64 Q (.rnd [0,0,1,0,1,1,1,1,1] (d+1)::[.blk 0,.at [1,1,1,1,1,1]]) ⟨[(11,.v (.int .i64 (k:Int))),(10,.v (.int .i64 t)),(9,.v (.int .i64 f)),(8,.o 0),(1,.v (.int .i64 kk))],[.rowc 156 3 l.length (.fn (cQ l))]⟩
 | 0,k,f,t,hd,hf,ht=>by
  refine FOk.rnd (qD hm 60 ((rrR l f t kk k 0 _ _).mpr ⟨?_⟩))
  rw[qF,if_neg (by omega),qF]
  rw[show k=l.length by omega,List.take_length] at hf ht
  rw[hf,ht]
  rw[qIs] at hq
  refine qE (fun h=>?_) (fun h=>?_)
  ·rw[if_pos h] at hq; exact hq
  ·rw[if_neg h] at hq; exact hq
 | d+1,k,f,t,hd,hf,ht=>by
  have hk:k<l.length:=by omega
  have rec':=qYj l hl kk Q hq d (k+1) (frQ f (gQ l k)) (toQ kk t (gQ l k)) (by omega) (by rw[qBg _ _ hk,← hf]) (by rw[qBg _ _ hk,← ht])
  refine FOk.rnd (qD hm 60 ((rrR l f t kk k (d+1) _ _).mpr ⟨?_⟩))
  rw[qF,if_pos (by omega),qL _ (by omega)]
  simp only[qF,forall_const]
  repeat' (first | refine And.intro (by omega) ?_ | refine qE (fun h=>?_) (fun h=>?_))
  all_goals first
   | (rw[frQ,if_pos (by assumption),toQ,if_pos (by assumption)] at rec'; exact rec')
   | (rw[frQ,if_pos (by assumption),toQ,if_neg (by assumption)] at rec'; exact rec')
   | (rw[frQ,if_neg (by assumption),toQ,if_pos (by assumption)] at rec'; exact rec')
   | (rw[frQ,if_neg (by assumption),toQ,if_neg (by assumption)] at rec'; exact rec')
theorem bRr:Tryz.f64.body.isSome=true:=by kernel_rfl
theorem nRr(c:Cir)(k x:Int):Nat.ble [(.agg [.v (.int .i64 c.fx),.v (.int .i64 c.ad),.v (.int .i64 c.ins),.x 0 [],.x 1 [],.x 2 [],.x 3 []]:SV),.v (.int .i64 k),.v (.int .i64 x)].length Tryz.f64.ntmps=true:=by kernel_rfl
theorem zQf(c:Cir)(hc:c.ok)(k x:Int)(Q:SV→List HO→Prop)(hq:Q (.tup [.v (.int .i64 (jG c k x).1),.v (.int .i64 (jG c k x).2)]) []):qI Tryz.prog 64 [.agg [.v (.int .i64 c.fx),.v (.int .i64 c.ad),.v (.int .i64 c.ins),.x 0 [],.x 1 [],.x 2 [],.x 3 []],.v (.int .i64 k),.v (.int .i64 x)] [.ext false (.s false 7 c.nodes.length (cN c.nodes)),.ext false (.s false 1 c.gates.length (cI c.gates)),.ext false (.s false 2 c.looks.length (cL c.looks)),.ext false (.s false 2 c.eqs.length (cK c.eqs))] Q:=by
 refine qJ Tryz.func64 bRr ?_ ?_
 ·exact nRr c k x
 have h1:=hc.n.2
 have h2:=qFc c x
 refine qD hm 60 ((rrS c k x _ _).mpr ⟨?_⟩)
 have no:¬ (zY c=0∧0≤x∧x<(c.nodes.length:Int))→Q (.tup [.v (.int .i64 0),.v (.int .i64 0)]) []:=fun h=>by
  rw[jG,if_neg h] at hq
  exact hq
 simp only[qF,qN,qT]
 refine wS c hc (qE (fun a1=>qE (fun a2=>qE (fun a3=>wS c hc ?_) (fun a3=>no (by omega))) (fun a2=>no (by omega))) (fun a1=>no (fun h=>a1 h.1)))
 rw[jG,if_pos (by omega)] at hq
 exact FOk.loop ((zS c x).length+1) (by kernel_rfl) (qYj (zS c x) (by omega) k Q hq (zS c x).length 0 _ _ (by omega) rfl rfl)
noncomputable def gRr:List SV→List HO→Option ((SV→List HO→Prop)→Prop)
 | [.agg [.v (.int .i64 fx),.v (.int .i64 ad),.v (.int .i64 ins),.x 0 [],.x 1 [],.x 2 [],.x 3 []],.v (.int .i64 k),.v (.int .i64 x)],[.ext false (.s false 7 n0 c0),.ext false (.s false 1 n1 c1),.ext false (.s false 2 n2 c2),.ext false (.s false 2 n3 c3)] =>
  some fun Q=>lC fx ad ins n0 n1 n2 n3 c0 c1 c2 c3 fun c=>Q (.tup [.v (.int .i64 (jG c k x).1),.v (.int .i64 (jG c k x).2)]) []
 | _,_=>none
theorem zNg(args:List SV)(h:List HO)(tr:(SV→List HO→Prop)→Prop)(Q:SV→List HO→Prop)(hc:gRr args h=some tr)(ht:tr Q):qI Tryz.prog 64 args h Q:=by
 unfold gRr at hc
 split at hc
 ·simp only[sI] at hc
  subst hc
  obtain⟨c,rfl,rfl,rfl,⟨rfl,e0⟩,⟨rfl,e1⟩,⟨rfl,e2⟩,⟨rfl,e3⟩,hk,hq⟩:=ht.h
  exact qI.ac (zQf c hk _ _ Q hq) ⟨⟨rfl,rfl,rfl,rfl,e0⟩,⟨rfl,rfl,rfl,rfl,e1⟩,⟨rfl,rfl,rfl,rfl,e2⟩,⟨rfl,rfl,rfl,rfl,e3⟩,trivial⟩
 ·cases hc
noncomputable def K57:Con Tryz.prog:=((K56.add 64 gRr zNg))
end Go.Proofs.YtlmjdcbhpffanaaGreat
/- Tables and sheets; elements copied as frozen memory. -/
namespace Go.Pl
open Go.Sx
def gT(l:List (List Nat))(k:Nat):List Nat:=l.getD k []
noncomputable def zIg(x:List Nat)(_:Nat):qG:=.s false 4 x.length (cE x)
noncomputable def cT(l:List (List Nat)):Nat→Nat→qG:=fun k j=>zIg (gT l k) j
def dP:Int×Int×Int×Int:=(0,0,0,0)
def gP(l:List (Int×Int×Int×Int))(k:Nat):Int×Int×Int×Int:=l.getD k dP
def zIq(x:Int×Int×Int×Int)(j:Nat):qG :=
 match j with
 | 0=>.v (.int .i64 x.1)
 | 1=>.v (.int .i64 x.2.1)
 | 2=>.v (.int .i64 x.2.2.1)
 | 3=>.v (.int .i64 x.2.2.2)
 | _=>.v undef
def cP(l:List (Int×Int×Int×Int)):Nat→Nat→qG:=fun k j=>zIq (gP l k) j
structure Sht where
  fx : List (List Nat)
  ad : List (List Nat)
  is : List (List Nat)
  cp : List (Int × Int × Int × Int)
def okT(l:List (List Nat)):Prop:=(∀ x∈l,(∀ v∈x,v<top)∧x.length*32≤140737488351232)∧l.length*24≤140737488351232
structure Sht.ok (s : Sht) : Prop where
  f : okT s.fx
  a : okT s.ad
  i : okT s.is
  c : (∀ x ∈ s.cp, i64 x.1 ∧ i64 x.2.1 ∧ i64 x.2.2.1 ∧ i64 x.2.2.2) ∧ s.cp.length * 32 ≤ 140737488351232
structure lT (n : Nat) (c : Nat → Nat → qG) (k : List (List Nat) → Prop) : Prop where
  h : ∃ l : List (List Nat), n = l.length ∧ IsC n 1 c (cT l) ∧ okT l ∧ k l
theorem qCp{l:List (List Nat)}(h:okT l){k:List (List Nat)→Prop}(hk:k l):lT l.length (cT l) k:=⟨⟨l,rfl,IsC.refl _ _ _,h,hk⟩⟩
structure lS (n0 n1 n2 n3 : Nat) (c0 c1 c2 c3 : Nat → Nat → qG) (k : Sht → Prop) : Prop where
  h : ∃ s : Sht, (n0 = s.fx.length ∧ IsC n0 1 c0 (cT s.fx)) ∧ (n1 = s.ad.length ∧ IsC n1 1 c1 (cT s.ad)) ∧ (n2 = s.is.length ∧ IsC n2 1 c2 (cT s.is)) ∧ (n3 = s.cp.length ∧ IsC n3 4 c3 (cP s.cp)) ∧ s.ok ∧ k s
theorem qIy(s:Sht)(hs:s.ok){k:Sht→Prop}(h:k s):lS s.fx.length s.ad.length s.is.length s.cp.length (cT s.fx) (cT s.ad) (cT s.is) (cP s.cp) k :=
 ⟨⟨s,⟨rfl,IsC.refl _ _ _⟩,⟨rfl,IsC.refl _ _ _⟩,⟨rfl,IsC.refl _ _ _⟩,⟨rfl,IsC.refl _ _ _⟩,hs,h⟩⟩
theorem qQo{l:List (List Nat)}{k:Nat}(a:List Nat)(h:l.length=k):IsC (k+1) 1 (Ct.app k (.fn (cT l)) (.lit 1 [.s false 4 a.length (cE a)])).at (Ct.fn (cT (l++[a]))).at:=by
 subst h
 exact qCq zIg [] 1 l a _ fun j hj=>by
  match j,hj with
  | 0,_=>rfl
theorem qBd{l:List (List Nat)}{k:Nat}(h:k<l.length):gT l k∈l:=by
 rw[gT,List.getD_eq_getElem?_getD,List.getElem?_eq_getElem h]
 exact List.getElem_mem h
theorem qQv{l:List (List Nat)}{k:Nat}(h:k<l.length):l.take (k+1)=l.take k++[gT l k]:=by
 rw[List.take_add_one,List.getElem?_eq_getElem h,gT,List.getD_eq_getElem?_getD,List.getElem?_eq_getElem h]; rfl
theorem qYz{l:List (List Nat)}{k:Nat}(h:k<l.length):l.drop k=gT l k::l.drop (k+1):=by
 rw[List.drop_eq_getElem_cons h,gT,List.getD_eq_getElem?_getD,List.getElem?_eq_getElem h]; rfl
theorem zHw{l:List (Int×Int×Int×Int)}{k:Nat}(h:k<l.length):l.take (k+1)=l.take k++[gP l k]:=by
 rw[List.take_add_one,List.getElem?_eq_getElem h,gP,List.getD_eq_getElem?_getD,List.getElem?_eq_getElem h]; rfl
theorem qYs{l:List (Int×Int×Int×Int)}{k:Nat}(h:k<l.length):l.drop k=gP l k::l.drop (k+1):=by
 rw[List.drop_eq_getElem_cons h,gP,List.getD_eq_getElem?_getD,List.getElem?_eq_getElem h]; rfl
end Go.Pl
namespace Go.Proofs.YtlmjdcbhpffanaaGreat
open Go.Sx Go.Pl
set_option linter.unusedVariables false
set_option maxRecDepth 100000
theorem zPs(all:List Nat)(hb:all.length≤4398046511104)(Q:SV→List HO→Prop)(hq:Q (.x 0 []) [.ext false (.s false 4 all.length (cE all))]):qI Tryz.prog 34 [.x 0 []] [.ext false (.s false 4 all.length (cE all))] Q:=by
 have h:=qI.gc (r1:=.x 0 []) (h1:=[.ext false (.s false 4 all.length (cE all))]) rfl (qI.frz1 0 rfl (zIj all hb (fun r h'=>r=.o 0∧h'=[.rowc 53 4 all.length (.fn (cE all))]) ⟨rfl,rfl⟩))
 exact qI.mono h fun r h' hh=>by rw[hh.1,hh.2]; exact hq
noncomputable def zCf:List SV→List HO→Option ((SV→List HO→Prop)→Prop)
 | [.x 0 []],[.ext false (.s false 4 n c)]=>some fun Q=>lE n c fun l=>Q (.x 0 []) [.ext false (.s false 4 l.length (cE l))]
 | _,_=>none
theorem zEj(args:List SV)(h:List HO)(tr:(SV→List HO→Prop)→Prop)(Q:SV→List HO→Prop)(hc:zCf args h=some tr)(ht:tr Q):qI Tryz.prog 34 args h Q:=by
 unfold zCf at hc
 split at hc
 ·simp only[sI] at hc
  subst hc
  obtain⟨l,rfl,he,hb,hv,hq⟩:=ht.h
  exact qI.ac (zPs l hb Q hq) ⟨⟨rfl,rfl,rfl,rfl,he⟩,trivial⟩
 ·cases hc
noncomputable def zOl:Con Tryz.prog:=K57.add 34 zCf zEj
end Go.Proofs.YtlmjdcbhpffanaaGreat
/- A table as new memory. -/
namespace Go.Proofs.YtlmjdcbhpffanaaGreat
open Go.Sx Go.Pl
set_option linter.unusedVariables false
set_option maxRecDepth 100000
theorem tbS(l:List (List Nat))(K:List It→St→Prop)(R:SV→List HO→Prop):W (xwp Tryz.prog X zOl [] 60 (qK Tryz.f35 [] [⟨[0,1,0,1,1],[4,3,0],[]⟩]) [] [.at []] ⟨qR 0 [.x 0 []],[.ext false (.s false 1 l.length (cT l))]⟩ K R)=W (K [.at [0,1,0,1,1],.blk 0,.at [1,1,1]] (St.mk [(4,.v (qA 0)),(3,.o 0),(0,.x 1 [])] [.rowc 67 1 0 (.lit 1 []),.ext false (.s false 1 l.length (cT l))])):=by kernel_rfl
theorem tbR(l ls:List (List Nat))(m k M:Nat)(K:List It→St→Prop)(R:SV→List HO→Prop):W (xwp Tryz.prog X zOl [] 60 (qK Tryz.f35 [] [⟨[0,1,0,1,1],[4,3,0],[]⟩]) [] (.at [0,0,1,0,1,1]::.rnd [0,0,1,0,1,1] M::[.blk 0,.at [1,1,1]]) ⟨[(4,.v (.int .i64 (k:Int))),(3,.o 0),(0,.x 1 [])],[.rowc 67 1 m (.fn (cT ls)),.ext false (.s false 1 l.length (cT l))]⟩ K R)=W (bif decide ((↑k:Int)<(↑l.length:Int)) then(∀ M:Mem,(0:Int)≤(↑k:Int)∧(↑k:Int)<(↑l.length:Int))∧(∀ M:Mem,k<List.length l)∧(∀ M:Mem,k<List.length l)∧lE (List.length (gT l k)) (cE (gT l k)) fun(l_1:List Nat)=>(∀ M:Mem,(m+1)*24≤140737488355328∧m+1≤140737488355328)∧K [.rnd [0,0,1,0,1,1] M,.blk 0,.at [1,1,1]] (St.mk [(4,.v (qA (IntKind.wrap .i64 ((↑k:Int)+(1:Int))))),(3,.o 0),(0,.x 1 [])] [.rowc 67 1 (m+1) (.app m (.fn (cT ls)) (.lit 1 [.s false 4 l_1.length (cE l_1)])),.ext false (.s false 1 l.length (cT l))]) else R (.o 0) [.rowc 67 1 m (.fn (cT ls))]):=by kernel_rfl
theorem qXw(l:List (List Nat))(hl:okT l)(Q:SV→List HO→Prop)(hq:Q (.o 0) [.rowc 67 1 l.length (.fn (cT l))]):∀(d k:Nat) (ls:List (List Nat)),k+d=l.length→ls=l.take k →
  FOk Tryz.prog Tryz.f35 Q (.rnd [0,0,1,0,1,1] (d+1)::[.blk 0,.at [1,1,1]]) ⟨[(4,.v (.int .i64 (k:Int))),(3,.o 0),(0,.x 1 [])],[.rowc 67 1 k (.fn (cT ls)),.ext false (.s false 1 l.length (cT l))]⟩
 | 0,k,ls,hd,he=>by
  refine FOk.rnd (qD hm 60 ((tbR l ls k k 0 _ _).mpr ⟨?_⟩))
  rw[qF,if_neg (by omega)]
  rw[show k=l.length by omega,List.take_length] at he
  rw[he,show k=l.length by omega]
  exact hq
 | d+1,k,ls,hd,he=>by
  have hk:k<l.length:=by omega
  have h1:=hl.2
  obtain⟨g0,g1⟩:=hl.1 _ (qBd hk)
  have hlen:ls.length=k:=by rw[he,List.length_take]; omega
  refine FOk.rnd (qD hm 60 ((tbR l ls k k (d+1) _ _).mpr ⟨?_⟩))
  rw[qF,if_pos (by omega),qL _ (by omega)]
  refine aI (aI (And.intro (fun _=>by omega) ⟨⟨gT l k,rfl,IsC.refl _ _ _,by omega,g0,And.intro (fun _=>by omega) ?_⟩⟩))
  exact FOk.cv (qXw l hl Q hq d (k+1) (ls++[gT l k]) (by omega) (by rw[he,qQv hk])) ⟨⟨rfl,rfl,rfl,qQo _ hlen⟩,HE.refl _,trivial⟩
theorem bTb:Tryz.f35.body.isSome=true:=by kernel_rfl
theorem nTb:Nat.ble [SV.x 0 []].length Tryz.f35.ntmps=true:=by kernel_rfl
theorem zSl(l:List (List Nat))(hl:okT l)(Q:SV→List HO→Prop)(hq:Q (.x 0 []) [.ext false (.s false 1 l.length (cT l))]):qI Tryz.prog 35 [.x 0 []] [.ext false (.s false 1 l.length (cT l))] Q:=by
 have h0:qI Tryz.prog 35 [.x 0 []] [.ext false (.s false 1 l.length (cT l))] (fun r h'=>r=.o 0∧h'=[.rowc 67 1 l.length (.fn (cT l))]):=by
  refine qJ Tryz.func35 bTb ?_ ?_
  ·exact nTb
  refine qD hm 60 ((tbS l _ _).mpr ⟨?_⟩)
  exact FOk.loop (l.length+1) (by kernel_rfl) (FOk.cv (qXw l hl _ ⟨rfl,rfl⟩ l.length 0 [] (by omega) rfl) ⟨⟨rfl,rfl,rfl,fun k hk=>by omega⟩,HE.refl _,trivial⟩)
 have h:=qI.gc (r1:=.x 0 []) (h1:=[.ext false (.s false 1 l.length (cT l))]) rfl (qI.frz1 0 rfl h0)
 exact qI.mono h fun r h' hh=>by rw[hh.1,hh.2]; exact hq
noncomputable def gTb:List SV→List HO→Option ((SV→List HO→Prop)→Prop)
 | [.x 0 []],[.ext false (.s false 1 n c)]=>some fun Q=>lT n c fun l=>Q (.x 0 []) [.ext false (.s false 1 l.length (cT l))]
 | _,_=>none
theorem zLq(args:List SV)(h:List HO)(tr:(SV→List HO→Prop)→Prop)(Q:SV→List HO→Prop)(hc:gTb args h=some tr)(ht:tr Q):qI Tryz.prog 35 args h Q:=by
 unfold gTb at hc
 split at hc
 ·simp only[sI] at hc
  subst hc
  obtain⟨l,rfl,he,hl,hq⟩:=ht.h
  exact qI.ac (zSl l hl Q hq) ⟨⟨rfl,rfl,rfl,rfl,he⟩,trivial⟩
 ·cases hc
noncomputable def zTo:Con Tryz.prog:=zOl.add 35 gTb zLq
end Go.Proofs.YtlmjdcbhpffanaaGreat
/- A sheet as new memory. -/
namespace Go.Proofs.YtlmjdcbhpffanaaGreat
open Go.Sx Go.Pl
set_option linter.unusedVariables false
set_option maxRecDepth 100000
theorem csS(s:Sht)(K:List It→St→Prop)(R:SV→List HO→Prop):W (xwp Tryz.prog X zTo [] 60 (qK Tryz.f20 [] []) [] [.at []] ⟨qR 0 [.agg [.x 0 [],.x 1 [],.x 2 [],.x 3 []]],[.ext false (.s false 1 s.fx.length (cT s.fx)),.ext false (.s false 1 s.ad.length (cT s.ad)),.ext false (.s false 1 s.is.length (cT s.is)),.ext false (.s false 4 s.cp.length (cP s.cp))]⟩ K R)=W (lT s.1.length (cT s.1) fun(l:List (List Nat))=>lT s.2.length (cT s.2) fun(l_1:List (List Nat))=>lT s.3.length (cT s.3) fun(l_2:List (List Nat))=>(∀ M:Mem,(0+List.length s.4)*32≤140737488355328∧0+List.length s.4≤140737488355328)∧(∀ M:Mem,0+4≤4)∧R (.agg [.x 0 [],.x 1 [],.x 2 [],.o 3]) [.ext false (.s false 1 l.length (cT l)),.ext false (.s false 1 l_1.length (cT l_1)),.ext false (.s false 1 l_2.length (cT l_2)),.rowc 101 4 (0+List.length s.4) (.app 0 (.lit 4 []) (.fn (cP s.4)))]):=by kernel_rfl
theorem bCs:Tryz.f20.body.isSome=true:=by kernel_rfl
theorem nCs:Nat.ble [(.agg [.x 0 [],.x 1 [],.x 2 [],.x 3 []]:SV)].length Tryz.f20.ntmps=true:=by kernel_rfl
theorem zTl(s:Sht)(hs:s.ok)(Q:SV→List HO→Prop)(hq:Q (.agg [.x 0 [],.x 1 [],.x 2 [],.x 3 []]) [.ext false (.s false 1 s.fx.length (cT s.fx)),.ext false (.s false 1 s.ad.length (cT s.ad)),.ext false (.s false 1 s.is.length (cT s.is)),.ext false (.s false 4 s.cp.length (cP s.cp))]):qI Tryz.prog 20 [.agg [.x 0 [],.x 1 [],.x 2 [],.x 3 []]] [.ext false (.s false 1 s.fx.length (cT s.fx)),.ext false (.s false 1 s.ad.length (cT s.ad)),.ext false (.s false 1 s.is.length (cT s.is)),.ext false (.s false 4 s.cp.length (cP s.cp))] Q:=by
 have h0:qI Tryz.prog 20 [.agg [.x 0 [],.x 1 [],.x 2 [],.x 3 []]] [.ext false (.s false 1 s.fx.length (cT s.fx)),.ext false (.s false 1 s.ad.length (cT s.ad)),.ext false (.s false 1 s.is.length (cT s.is)),.ext false (.s false 4 s.cp.length (cP s.cp))] (fun r h'=>r=.agg [.x 0 [],.x 1 [],.x 2 [],.o 3]∧HEs h' [.ext false (.s false 1 s.fx.length (cT s.fx)),.ext false (.s false 1 s.ad.length (cT s.ad)),.ext false (.s false 1 s.is.length (cT s.is)),.rowc 101 4 s.cp.length (.fn (cP s.cp))]):=by
  refine qJ Tryz.func20 bCs ?_ ?_
  ·exact nCs
  have h1:=hs.c.2
  refine qD hm 60 ((csS s _ _).mpr ⟨?_⟩)
  refine qCp hs.f (qCp hs.a (qCp hs.i (aI (And.intro (fun _=>by omega) ?_))))
  exact⟨rfl,HE.refl _,HE.refl _,HE.refl _,⟨rfl,rfl,Nat.zero_add _,fun k hk j hj=>qAh _ _ _ (Nat.zero_le _)⟩,trivial⟩
 have h1:=qI.frz1 3 (T:=101) (sz:=4) (n:=s.cp.length) (c:=.fn (cP s.cp)) (by kernel_rfl) (qI.eqv h0)
 have h2:=qI.gc (r1:=.agg [.x 0 [],.x 1 [],.x 2 [],.x 3 []]) (h1:=[.ext false (.s false 1 s.fx.length (cT s.fx)),.ext false (.s false 1 s.ad.length (cT s.ad)),.ext false (.s false 1 s.is.length (cT s.is)),.ext false (.s false 4 s.cp.length (cP s.cp))]) (by kernel_rfl) h1
 exact qI.mono h2 fun r h' hh=>by rw[hh.1,hh.2]; exact hq
noncomputable def gCs:List SV→List HO→Option ((SV→List HO→Prop)→Prop)
 | [.agg [.x 0 [],.x 1 [],.x 2 [],.x 3 []]],[.ext false (.s false 1 n0 c0),.ext false (.s false 1 n1 c1),.ext false (.s false 1 n2 c2),.ext false (.s false 4 n3 c3)] =>
  some fun Q=>lS n0 n1 n2 n3 c0 c1 c2 c3 fun s=>Q (.agg [.x 0 [],.x 1 [],.x 2 [],.x 3 []]) [.ext false (.s false 1 s.fx.length (cT s.fx)),.ext false (.s false 1 s.ad.length (cT s.ad)),.ext false (.s false 1 s.is.length (cT s.is)),.ext false (.s false 4 s.cp.length (cP s.cp))]
 | _,_=>none
theorem zOd(args:List SV)(h:List HO)(tr:(SV→List HO→Prop)→Prop)(Q:SV→List HO→Prop)(hc:gCs args h=some tr)(ht:tr Q):qI Tryz.prog 20 args h Q:=by
 unfold gCs at hc
 split at hc
 ·simp only[sI] at hc
  subst hc
  obtain⟨s,⟨rfl,e0⟩,⟨rfl,e1⟩,⟨rfl,e2⟩,⟨rfl,e3⟩,hs,hq⟩:=ht.h
  exact qI.ac (zTl s hs Q hq) ⟨⟨rfl,rfl,rfl,rfl,e0⟩,⟨rfl,rfl,rfl,rfl,e1⟩,⟨rfl,rfl,rfl,rfl,e2⟩,⟨rfl,rfl,rfl,rfl,e3⟩,trivial⟩
 ·cases hc
noncomputable def K70:Con Tryz.prog:=zTo.add 20 gCs zOd
end Go.Proofs.YtlmjdcbhpffanaaGreat
/- A cell's value. -/
namespace Go.Pl
open Go.Sx
def qUm(s:Sht)(kd:Int):List (List Nat):=if kd=2 then s.fx else if kd=3 then s.ad else if kd=4 then s.is else[]
def atT(t:List (List Nat))(co ro:Int):Nat:=if co<0∨ro<0 then 0 else gE (gT t co.toNat) ro.toNat
def atS(s:Sht)(kd co ro:Int):Nat:=atT (qUm s kd) co ro
theorem zCl{t:List (List Nat)}{k:Nat}(h:t.length≤k):gT t k=[]:=by rw[gT,List.getD_eq_getElem?_getD,List.getElem?_eq_none h]; rfl
theorem qPy{t:List Nat}{k:Nat}(h:t.length≤k):gE t k=0:=by rw[gE,List.getD_eq_getElem?_getD,List.getElem?_eq_none h]; rfl
theorem qJw{t:List (List Nat)}{co ro:Int}(h:co<0∨ro<0):atT t co ro=0:=if_pos h
theorem qXx{t:List (List Nat)}{co ro:Int}(h:(t.length:Int)≤co):atT t co ro=0:=by
 rw[atT]; split
 ·rfl
 ·rw[zCl (by omega)]; exact qPy (Nat.zero_le _)
theorem zAd{t:List (List Nat)}{co ro:Int}(h:((gT t co.toNat).length:Int)≤ro):atT t co ro=0:=by
 rw[atT]; split
 ·rfl
 ·exact qPy (by omega)
theorem zEb{t:List (List Nat)}{co ro:Int}(h:¬ co<0)(h2:¬ ro<0):atT t co ro=gE (gT t co.toNat) ro.toNat:=if_neg (by omega)
theorem zKg{t:List (List Nat)}(h:okT t)(k:Nat):∀ v∈gT t k,v<top:=by
 by_cases hk:k<t.length
 ·exact(h.1 _ (qBd hk)).1
 ·rw[zCl (by omega)]; intro v hv; cases hv
theorem zGw{t:List (List Nat)}(h:okT t)(co ro:Int):atT t co ro<top:=by
 rw[atT]; split
 ·simp only[top]; omega
 ·exact yK (zKg h _) _
theorem zFl{s:Sht}(h:s.ok)(kd:Int):okT (qUm s kd):=by
 rw[qUm]
 split
 ·exact h.f
 split
 ·exact h.a
 split
 ·exact h.i
 ·exact⟨fun x hx=>(by cases hx),by decide⟩
theorem qRe{s:Sht}(h:s.ok)(kd co ro:Int):atS s kd co ro<top:=zGw (zFl h kd) co ro
end Go.Pl
namespace Go.Proofs.YtlmjdcbhpffanaaGreat
open Go.Sx Go.Pl
set_option linter.unusedVariables false
set_option maxRecDepth 100000
theorem at2(b0 b1 b2 b3:Bool)(s:Sht)(kd co ro:Int)(K:List It→St→Prop)(R:SV→List HO→Prop):W (xwp Tryz.prog X K70 [] 60 (qK Tryz.f23 [] []) [.ld (.x 0 [])] [.at []] ⟨qR 0 [.agg [.x 0 [],.x 1 [],.x 2 [],.x 3 []],.v (.int .i64 kd),.v (.int .i64 co),.v (.int .i64 ro)],[.ext b0 (.s false 1 s.fx.length (cT s.fx)),.ext b1 (.s false 1 s.ad.length (cT s.ad)),.ext b2 (.s false 1 s.is.length (cT s.is)),.ext b3 (.s false 4 s.cp.length (cP s.cp))]⟩ K R)=W ((∀ M:Mem,(match decide ([kd]=[(2:Int)]) with | true=>some (SV.x 0 []) | false=>match decide ([kd]=[(3:Int)]) with | true=>some (SV.x 1 []) | false=>match decide ([kd]=[(4:Int)]) with | true=>some (SV.x 2 []) | false=>none)=some (SV.x 0 []))∧bif decide (co<(0:Int)) then(∀ M:Mem,4≤4)∧R (SV.agg [SV.v (qC 0),SV.v (qC 0),SV.v (qC 0),SV.v (qC 0)]) [] else bif decide ((↑s.1.length:Int)≤co) then(∀ M:Mem,4≤4)∧R (SV.agg [SV.v (qC 0),SV.v (qC 0),SV.v (qC 0),SV.v (qC 0)]) [] else bif decide (ro<(0:Int)) then(∀ M:Mem,4≤4)∧R (SV.agg [SV.v (qC 0),SV.v (qC 0),SV.v (qC 0),SV.v (qC 0)]) [] else(∀ M:Mem,(0:Int)≤co∧co<(↑s.1.length:Int))∧(∀ M:Mem,Int.toNat co<List.length s.1)∧(∀ M:Mem,Int.toNat co<List.length s.1)∧bif decide ((↑(List.length (gT s.1 (Int.toNat co))):Int)≤ro) then(∀ M:Mem,4≤4)∧R (SV.agg [SV.v (qC 0),SV.v (qC 0),SV.v (qC 0),SV.v (qC 0)]) [] else(∀ M:Mem,(0:Int)≤co∧co<(↑s.1.length:Int))∧(∀ M:Mem,Int.toNat co<List.length s.1)∧(∀ M:Mem,Int.toNat co<List.length s.1)∧(∀ M:Mem,(0:Int)≤ro∧ro<(↑(List.length (gT s.1 (Int.toNat co))):Int))∧(∀ M:Mem,Int.toNat co<List.length s.1)∧(∀ M:Mem,Int.toNat ro<List.length (gT s.1 (Int.toNat co)))∧(∀ M:Mem,0+4≤4)∧R ((eS (gE (gT s.1 (Int.toNat co)) (Int.toNat ro)))) []):=by kernel_rfl
theorem at3(b0 b1 b2 b3:Bool)(s:Sht)(kd co ro:Int)(K:List It→St→Prop)(R:SV→List HO→Prop):W (xwp Tryz.prog X K70 [] 60 (qK Tryz.f23 [] []) [.ld (.x 1 [])] [.at []] ⟨qR 0 [.agg [.x 0 [],.x 1 [],.x 2 [],.x 3 []],.v (.int .i64 kd),.v (.int .i64 co),.v (.int .i64 ro)],[.ext b0 (.s false 1 s.fx.length (cT s.fx)),.ext b1 (.s false 1 s.ad.length (cT s.ad)),.ext b2 (.s false 1 s.is.length (cT s.is)),.ext b3 (.s false 4 s.cp.length (cP s.cp))]⟩ K R)=W ((∀ M:Mem,(match decide ([kd]=[(2:Int)]) with | true=>some (SV.x 0 []) | false=>match decide ([kd]=[(3:Int)]) with | true=>some (SV.x 1 []) | false=>match decide ([kd]=[(4:Int)]) with | true=>some (SV.x 2 []) | false=>none)=some (SV.x 1 []))∧bif decide (co<(0:Int)) then(∀ M:Mem,4≤4)∧R (SV.agg [SV.v (qC 0),SV.v (qC 0),SV.v (qC 0),SV.v (qC 0)]) [] else bif decide ((↑s.2.length:Int)≤co) then(∀ M:Mem,4≤4)∧R (SV.agg [SV.v (qC 0),SV.v (qC 0),SV.v (qC 0),SV.v (qC 0)]) [] else bif decide (ro<(0:Int)) then(∀ M:Mem,4≤4)∧R (SV.agg [SV.v (qC 0),SV.v (qC 0),SV.v (qC 0),SV.v (qC 0)]) [] else(∀ M:Mem,(0:Int)≤co∧co<(↑s.2.length:Int))∧(∀ M:Mem,Int.toNat co<List.length s.2)∧(∀ M:Mem,Int.toNat co<List.length s.2)∧bif decide ((↑(List.length (gT s.2 (Int.toNat co))):Int)≤ro) then(∀ M:Mem,4≤4)∧R (SV.agg [SV.v (qC 0),SV.v (qC 0),SV.v (qC 0),SV.v (qC 0)]) [] else(∀ M:Mem,(0:Int)≤co∧co<(↑s.2.length:Int))∧(∀ M:Mem,Int.toNat co<List.length s.2)∧(∀ M:Mem,Int.toNat co<List.length s.2)∧(∀ M:Mem,(0:Int)≤ro∧ro<(↑(List.length (gT s.2 (Int.toNat co))):Int))∧(∀ M:Mem,Int.toNat co<List.length s.2)∧(∀ M:Mem,Int.toNat ro<List.length (gT s.2 (Int.toNat co)))∧(∀ M:Mem,0+4≤4)∧R ((eS (gE (gT s.2 (Int.toNat co)) (Int.toNat ro)))) []):=by kernel_rfl
theorem at4(b0 b1 b2 b3:Bool)(s:Sht)(kd co ro:Int)(K:List It→St→Prop)(R:SV→List HO→Prop):W (xwp Tryz.prog X K70 [] 60 (qK Tryz.f23 [] []) [.ld (.x 2 [])] [.at []] ⟨qR 0 [.agg [.x 0 [],.x 1 [],.x 2 [],.x 3 []],.v (.int .i64 kd),.v (.int .i64 co),.v (.int .i64 ro)],[.ext b0 (.s false 1 s.fx.length (cT s.fx)),.ext b1 (.s false 1 s.ad.length (cT s.ad)),.ext b2 (.s false 1 s.is.length (cT s.is)),.ext b3 (.s false 4 s.cp.length (cP s.cp))]⟩ K R)=W ((∀ M:Mem,(match decide ([kd]=[(2:Int)]) with | true=>some (SV.x 0 []) | false=>match decide ([kd]=[(3:Int)]) with | true=>some (SV.x 1 []) | false=>match decide ([kd]=[(4:Int)]) with | true=>some (SV.x 2 []) | false=>none)=some (SV.x 2 []))∧bif decide (co<(0:Int)) then(∀ M:Mem,4≤4)∧R (SV.agg [SV.v (qC 0),SV.v (qC 0),SV.v (qC 0),SV.v (qC 0)]) [] else bif decide ((↑s.3.length:Int)≤co) then(∀ M:Mem,4≤4)∧R (SV.agg [SV.v (qC 0),SV.v (qC 0),SV.v (qC 0),SV.v (qC 0)]) [] else bif decide (ro<(0:Int)) then(∀ M:Mem,4≤4)∧R (SV.agg [SV.v (qC 0),SV.v (qC 0),SV.v (qC 0),SV.v (qC 0)]) [] else(∀ M:Mem,(0:Int)≤co∧co<(↑s.3.length:Int))∧(∀ M:Mem,Int.toNat co<List.length s.3)∧(∀ M:Mem,Int.toNat co<List.length s.3)∧bif decide ((↑(List.length (gT s.3 (Int.toNat co))):Int)≤ro) then(∀ M:Mem,4≤4)∧R (SV.agg [SV.v (qC 0),SV.v (qC 0),SV.v (qC 0),SV.v (qC 0)]) [] else(∀ M:Mem,(0:Int)≤co∧co<(↑s.3.length:Int))∧(∀ M:Mem,Int.toNat co<List.length s.3)∧(∀ M:Mem,Int.toNat co<List.length s.3)∧(∀ M:Mem,(0:Int)≤ro∧ro<(↑(List.length (gT s.3 (Int.toNat co))):Int))∧(∀ M:Mem,Int.toNat co<List.length s.3)∧(∀ M:Mem,Int.toNat ro<List.length (gT s.3 (Int.toNat co)))∧(∀ M:Mem,0+4≤4)∧R ((eS (gE (gT s.3 (Int.toNat co)) (Int.toNat ro)))) []):=by kernel_rfl
theorem at0(b0 b1 b2 b3:Bool)(s:Sht)(kd co ro:Int)(K:List It→St→Prop)(R:SV→List HO→Prop):W (xwp Tryz.prog X K70 [] 60 (qK Tryz.f23 [] []) [.lx []] [.at []] ⟨qR 0 [.agg [.x 0 [],.x 1 [],.x 2 [],.x 3 []],.v (.int .i64 kd),.v (.int .i64 co),.v (.int .i64 ro)],[.ext b0 (.s false 1 s.fx.length (cT s.fx)),.ext b1 (.s false 1 s.ad.length (cT s.ad)),.ext b2 (.s false 1 s.is.length (cT s.is)),.ext b3 (.s false 4 s.cp.length (cP s.cp))]⟩ K R)=W ((∀ M:Mem,xJ [[(2:Int)],[(3:Int)],[(4:Int)]] [kd]=false)∧(∀ M:Mem,4≤4)∧R (.agg [.v (qC 0),.v (qC 0),.v (qC 0),.v (qC 0)]) []):=by kernel_rfl
theorem zWm:Tryz.f23.body.isSome=true:=by kernel_rfl
theorem zUm(kd co ro:Int):Nat.ble [(.agg [.x 0 [],.x 1 [],.x 2 [],.x 3 []]:SV),.v (.int .i64 kd),.v (.int .i64 co),.v (.int .i64 ro)].length Tryz.f23.ntmps=true:=by kernel_rfl
theorem zQn(b0 b1 b2 b3:Bool)(s:Sht)(kd co ro:Int)(Q:SV→List HO→Prop)(hq:Q (eS (atS s kd co ro)) []):qI Tryz.prog 23 [.agg [.x 0 [],.x 1 [],.x 2 [],.x 3 []],.v (.int .i64 kd),.v (.int .i64 co),.v (.int .i64 ro)] [.ext b0 (.s false 1 s.fx.length (cT s.fx)),.ext b1 (.s false 1 s.ad.length (cT s.ad)),.ext b2 (.s false 1 s.is.length (cT s.is)),.ext b3 (.s false 4 s.cp.length (cP s.cp))] Q:=by
 refine qJ Tryz.func23 zWm ?_ ?_
 ·exact zUm kd co ro
 rw[atS] at hq
 have fin:∀ t:List (List Nat),Q (eS (atT t co ro)) []→(bif decide (co<(0:Int)) then(∀(M:Mem),4≤4)∧Q (.agg [.v (qC 0),.v (qC 0),.v (qC 0),.v (qC 0)]) [] else bif decide ((t.length:Int)≤co) then(∀(M:Mem),4≤4)∧Q (.agg [.v (qC 0),.v (qC 0),.v (qC 0),.v (qC 0)]) [] else bif decide (ro<(0:Int)) then(∀(M:Mem),4≤4)∧Q (.agg [.v (qC 0),.v (qC 0),.v (qC 0),.v (qC 0)]) [] else(∀(M:Mem),(0:Int)≤co∧co<(t.length:Int))∧(∀(M:Mem),Int.toNat co<t.length)∧(∀(M:Mem),Int.toNat co<t.length)∧bif decide (((gT t (Int.toNat co)).length:Int)≤ro) then(∀(M:Mem),4≤4)∧Q (.agg [.v (qC 0),.v (qC 0),.v (qC 0),.v (qC 0)]) [] else(∀(M:Mem),(0:Int)≤co∧co<(t.length:Int))∧(∀(M:Mem),Int.toNat co<t.length)∧(∀(M:Mem),Int.toNat co<t.length)∧(∀(M:Mem),(0:Int)≤ro∧ro<((gT t (Int.toNat co)).length:Int))∧(∀(M:Mem),Int.toNat co<t.length)∧(∀(M:Mem),Int.toNat ro<(gT t (Int.toNat co)).length)∧(∀(M:Mem),0+4≤4)∧Q (eS (gE (gT t (Int.toNat co)) (Int.toNat ro))) []):=by
  intro t hq
  simp only[qF,← xM]
  refine qE (fun h=>?_) (fun h=>qE (fun h2=>?_) (fun h2=>qE (fun h3=>?_) (fun h3=>?_)))
  ·rw[qJw (.inl h)] at hq; exact⟨fun _=>by omega,hq⟩
  ·rw[qXx h2] at hq; exact⟨fun _=>by omega,hq⟩
  ·rw[qJw (.inr h3)] at hq; exact⟨fun _=>by omega,hq⟩
  refine aI (aI (aI (qE (fun h4=>?_) (fun h4=>?_))))
  ·rw[zAd h4] at hq; exact⟨fun _=>by omega,hq⟩
  ·rw[zEb h h3] at hq
   exact aI (aI (aI (aI (aI (aI (And.intro (fun _=>by omega) hq))))))
 by_cases h2:kd=2
 ·subst h2
  refine qD hm 60 ((at2 b0 b1 b2 b3 s 2 co ro _ _).mpr ⟨And.intro (fun _=>rfl) ?_⟩)
  rw[show qUm s 2=s.fx from rfl] at hq
  exact fin s.fx hq
 by_cases h3:kd=3
 ·subst h3
  refine qD hm 60 ((at3 b0 b1 b2 b3 s 3 co ro _ _).mpr ⟨And.intro (fun _=>rfl) ?_⟩)
  rw[show qUm s 3=s.ad from rfl] at hq
  exact fin s.ad hq
 by_cases h4:kd=4
 ·subst h4
  refine qD hm 60 ((at4 b0 b1 b2 b3 s 4 co ro _ _).mpr ⟨And.intro (fun _=>rfl) ?_⟩)
  rw[show qUm s 4=s.is from rfl] at hq
  exact fin s.is hq
 refine qD hm 60 ((at0 b0 b1 b2 b3 s kd co ro _ _).mpr ⟨And.intro (fun _=>by simp [xJ,h2,h3,h4]) (And.intro (fun _=>by omega) ?_)⟩)
 have e:atT [] co ro=0:=by
  rw[atT]; split
  ·rfl
  ·exact qPy (Nat.zero_le _)
 rw[qUm,if_neg h2,if_neg h3,if_neg h4,e] at hq
 rw[← xM]; exact hq
noncomputable def zOb:List SV→List HO→Option ((SV→List HO→Prop)→Prop)
 | [.agg [.x 0 [],.x 1 [],.x 2 [],.x 3 []],.v (.int .i64 kd),.v (.int .i64 co),.v (.int .i64 ro)],[.ext _ (.s false 1 n0 c0),.ext _ (.s false 1 n1 c1),.ext _ (.s false 1 n2 c2),.ext _ (.s false 4 n3 c3)] =>
  some fun Q=>lS n0 n1 n2 n3 c0 c1 c2 c3 fun s=>Q (eS (atS s kd co ro)) []
 | _,_=>none
theorem zHr(args:List SV)(h:List HO)(tr:(SV→List HO→Prop)→Prop)(Q:SV→List HO→Prop)(hc:zOb args h=some tr)(ht:tr Q):qI Tryz.prog 23 args h Q:=by
 unfold zOb at hc
 split at hc
 ·simp only[sI] at hc
  subst hc
  obtain⟨s,⟨rfl,e0⟩,⟨rfl,e1⟩,⟨rfl,e2⟩,⟨rfl,e3⟩,hs,hq⟩:=ht.h
  exact qI.ac (zQn _ _ _ _ s _ _ _ Q hq) ⟨⟨rfl,rfl,rfl,rfl,e0⟩,⟨rfl,rfl,rfl,rfl,e1⟩,⟨rfl,rfl,rfl,rfl,e2⟩,⟨rfl,rfl,rfl,rfl,e3⟩,trivial⟩
 ·cases hc
noncomputable def K71:Con Tryz.prog:=K70.add 23 zOb zHr
end Go.Proofs.YtlmjdcbhpffanaaGreat
/- Columns that are too long. -/
namespace Go.Pl
open Go.Sx
def uC(u:Int):Nat→Nat→qG:=fun _ _=>.v (.int .i64 u)
structure lU (ck : Nat → Nat → qG) (k : Int → Prop) : Prop where
  h : ∃ u : Int, IsC 1 1 ck (uC u) ∧ k u
theorem zRc(u:Int){k:Int→Prop}(h:k u):lU (lc 1 [.v (qA u)]) k:=⟨⟨u,fun i hi j hj=>by
 have:i=0:=by omega
 have:j=0:=by omega
 subst i j
 rfl,h⟩⟩
def qDq(u:Int)(x:List Nat):Bool:=decide (u<(x.length:Int))
theorem qVt{p:List Nat→Bool}{l:List (List Nat)}{k:Nat}(h:k<l.length):zA p k (l.drop k)=if p (gT l k) then(k:Int) else zA p (k+1) (l.drop (k+1)):=by
 rw[List.drop_eq_getElem_cons h,zA,gT,List.getD_eq_getElem?_getD,List.getElem?_eq_getElem h]; rfl
theorem qWt{p:Int×Int×Int×Int→Bool}{l:List (Int×Int×Int×Int)}{k:Nat}(h:k<l.length):zA p k (l.drop k)=if p (gP l k) then(k:Int) else zA p (k+1) (l.drop (k+1)):=by
 rw[List.drop_eq_getElem_cons h,zA,gP,List.getD_eq_getElem?_getD,List.getElem?_eq_getElem h]; rfl
end Go.Pl
namespace Go.Proofs.YtlmjdcbhpffanaaGreat
open Go.Sx Go.Pl
set_option linter.unusedVariables false
set_option maxRecDepth 100000
end Go.Proofs.YtlmjdcbhpffanaaGreat
/- Columns that are too long: the first. -/
namespace Go.Proofs.YtlmjdcbhpffanaaGreat
open Go.Sx Go.Pl
set_option linter.unusedVariables false
set_option maxRecDepth 100000
theorem zVz(b:Bool)(l:List (List Nat))(u:Int)(K:List It→St→Prop)(R:SV→List HO→Prop):W (xwp Tryz.prog X K71 [(51,[])] 60 (qK Tryz.f83 [] [⟨[0,1,0,1],[8,7,0,1],[]⟩]) [] [.at []] ⟨qR 0 [.x 0 [],.fn (.func 51) [] [.x 1 []]],[.ext b (.s false 1 l.length (cT l)),.ext true (.s true 1 1 (uC u))]⟩ K R)=W (K [.at [0,1,0,1],.blk 0,.at [1,1]] (St.mk [(8,.v (qA 0)),(7,.v (qA (↑l.length:Int))),(0,.x 0 []),(1,SV.fn (Fn.func 51) [] [.x 1 []])] [.ext b (.s false 1 l.length (cT l)),.ext true (.s true 1 1 (uC u))])):=by kernel_rfl
theorem zQd(b:Bool)(l:List (List Nat))(u:Int)(k M:Nat)(K:List It→St→Prop)(R:SV→List HO→Prop):W (xwp Tryz.prog X K71 [(51,[])] 60 (qK Tryz.f83 [] [⟨[0,1,0,1],[8,7,0,1],[]⟩]) [] (.at [0,0,1,0,1]::.rnd [0,0,1,0,1] M::[.blk 0,.at [1,1]]) ⟨[(8,.v (.int .i64 (k:Int))),(7,.v (.int .i64 (l.length:Int))),(0,.x 0 []),(1,.fn (.func 51) [] [.x 1 []])],[.ext b (.s false 1 l.length (cT l)),.ext true (.s true 1 1 (uC u))]⟩ K R)=W (bif decide ((↑k:Int)<(↑l.length:Int)) then(∀ M:Mem,(0:Int)≤(↑k:Int)∧(↑k:Int)<(↑l.length:Int))∧(∀ M:Mem,k<List.length l)∧(∀ M:Mem,k<List.length l)∧(∀ M:Mem,0<1)∧bif decide (u<(↑(List.length (gT l k)):Int)) then R (.v (qA (↑k:Int))) [] else K [.rnd [0,0,1,0,1] M,.blk 0,.at [1,1]] (St.mk [(8,.v (qA (IntKind.wrap .i64 ((↑k:Int)+(1:Int))))),(7,.v (qA (↑l.length:Int))),(0,.x 0 []),(1,SV.fn (Fn.func 51) [] [.x 1 []])] [.ext b (.s false 1 l.length (cT l)),.ext true (.s true 1 1 (uC u))]) else R (.v (qA (-1))) []):=by kernel_rfl
theorem qUq(b:Bool)(l:List (List Nat))(u:Int)(hb:l.length≤17592186043904)(Q:SV→List HO→Prop):∀(d k:Nat),k+d=l.length→Q (.v (.int .i64 (zA (qDq u) k (l.drop k)))) [] →
  FOk Tryz.prog Tryz.f83 Q (.rnd [0,0,1,0,1] (d+1)::[.blk 0,.at [1,1]]) ⟨[(8,.v (.int .i64 (k:Int))),(7,.v (.int .i64 (l.length:Int))),(0,.x 0 []),(1,.fn (.func 51) [] [.x 1 []])],[.ext b (.s false 1 l.length (cT l)),.ext true (.s true 1 1 (uC u))]⟩
 | 0,k,hd,hq=>by
  refine FOk.rnd (qD hm 60 ((zQd b l u k 0 _ _).mpr ⟨?_⟩))
  rw[qF,if_neg (by omega)]
  rw[show k=l.length by omega,List.drop_length] at hq
  exact hq
 | d+1,k,hd,hq=>by
  have hk:k<l.length:=by omega
  refine FOk.rnd (qD hm 60 ((zQd b l u k (d+1) _ _).mpr ⟨?_⟩))
  rw[qF,if_pos (by omega),qL _ (by omega)]
  rw[qVt hk,qDq] at hq
  simp only[qF,forall_const]
  repeat' (first | refine And.intro (by omega) ?_ | refine qE (fun h=>?_) (fun h=>?_))
  ·rw[decide_eq_true h] at hq; exact hq
  ·rw[decide_eq_false h] at hq; exact qUq b l u hb Q d (k+1) (by omega) hq
theorem zUe:Tryz.f83.body.isSome=true:=by kernel_rfl
theorem zUv:Nat.ble [SV.x 0 [],.fn (.func 51) [] [.x 1 []]].length Tryz.f83.ntmps=true:=by kernel_rfl
theorem zNf(b:Bool)(l:List (List Nat))(u:Int)(hb:l.length≤17592186043904)(Q:SV→List HO→Prop)(hq:Q (.v (.int .i64 (zA (qDq u) 0 l))) []):qI Tryz.prog 83 [.x 0 [],.fn (.func 51) [] [.x 1 []]] [.ext b (.s false 1 l.length (cT l)),.ext true (.s true 1 1 (uC u))] Q:=by
 refine qJ Tryz.func83 zUe ?_ ?_
 ·exact zUv
 refine qD hm 60 ((zVz b l u _ _).mpr ⟨?_⟩)
 exact FOk.loop (l.length+1) (by kernel_rfl) (qUq b l u hb Q l.length 0 (by omega) hq)
noncomputable def zKb:List SV→List HO→Option ((SV→List HO→Prop)→Prop)
 | [.x 0 [],.fn (.func 51) [] [.x 1 []]],[.ext _ (.s false 1 n c),.ext true (.s true 1 1 ck)]=>some fun Q=>lT n c fun l=>lU ck fun u=>Q (.v (.int .i64 (zA (qDq u) 0 l))) []
 | _,_=>none
theorem zGr(args:List SV)(h:List HO)(tr:(SV→List HO→Prop)→Prop)(Q:SV→List HO→Prop)(hc:zKb args h=some tr)(ht:tr Q):qI Tryz.prog 83 args h Q:=by
 unfold zKb at hc
 split at hc
 ·simp only[sI] at hc
  subst hc
  obtain⟨l,rfl,he,hb,hk⟩:=ht.h
  obtain⟨u,e1,hq⟩:=hk.h
  have:=hb.2
  exact qI.ac (zNf _ l u (by omega) Q hq) ⟨⟨rfl,rfl,rfl,rfl,he⟩,⟨rfl,rfl,rfl,rfl,e1⟩,trivial⟩
 ·cases hc
noncomputable def K72:Con Tryz.prog:=K71.add 83 zKb zGr
end Go.Proofs.YtlmjdcbhpffanaaGreat
/- Is a cell's place wrong? With what the function has caught. -/
namespace Go.Pl
open Go.Sx
def qCm(n:Nat)(u x y:Int):Bool:=decide (x<0∨(n:Int)≤x∨y<0∨u≤y)
def qJj(n:Nat)(u:Int)(x:Int×Int×Int×Int):Bool:=qCm n u x.1 x.2.1||qCm n u x.2.2.1 x.2.2.2
end Go.Pl
namespace Go.Proofs.YtlmjdcbhpffanaaGreat
open Go.Sx Go.Pl
set_option linter.unusedVariables false
set_option maxRecDepth 100000
theorem bdS(fx ad ins u:Int)(n0 n1 n2 n3:Nat)(c0 c1 c2 c3:Nat→Nat→qG)(x y:Int)(K:List It→St→Prop)(R:SV→List HO→Prop):W (xwp Tryz.prog X K72 [] 60 (fxM 6 Tryz.f54 [] []) [] [.at []] ⟨qR 0 [.agg [.v (.int .i64 x),.v (.int .i64 y)],.p 0 0,.p 1 0],[.cells [.v (.int .i64 fx),.v (.int .i64 ad),.v (.int .i64 ins),.x 2 [],.x 3 [],.x 4 [],.x 5 []] 27,.cells [.v (.int .i64 u)] 3,.ext false (.s false 7 n0 c0),.ext false (.s false 1 n1 c1),.ext false (.s false 2 n2 c2),.ext false (.s false 2 n3 c3)]⟩ K R)=W (bif decide (x<(0:Int)) then R (.v (.bool true)) [.cells [.v (qA fx),.v (qA ad),.v (qA ins),.x 2 [],.x 3 [],.x 4 [],.x 5 []] 27,.cells [.v (qA u)] 3,.ext false (.s false 7 n0 c0),.ext false (.s false 1 n1 c1),.ext false (.s false 2 n2 c2),.ext false (.s false 2 n3 c3)] else bif decide ((↑n3:Int)≤x) then R (.v (.bool true)) [.cells [.v (qA fx),.v (qA ad),.v (qA ins),.x 2 [],.x 3 [],.x 4 [],.x 5 []] 27,.cells [.v (qA u)] 3,.ext false (.s false 7 n0 c0),.ext false (.s false 1 n1 c1),.ext false (.s false 2 n2 c2),.ext false (.s false 2 n3 c3)] else bif decide (y<(0:Int)) then R (.v (.bool true)) [.cells [.v (qA fx),.v (qA ad),.v (qA ins),.x 2 [],.x 3 [],.x 4 [],.x 5 []] 27,.cells [.v (qA u)] 3,.ext false (.s false 7 n0 c0),.ext false (.s false 1 n1 c1),.ext false (.s false 2 n2 c2),.ext false (.s false 2 n3 c3)] else R (.v (.bool (decide (u≤y)))) [.cells [.v (qA fx),.v (qA ad),.v (qA ins),.x 2 [],.x 3 [],.x 4 [],.x 5 []] 27,.cells [.v (qA u)] 3,.ext false (.s false 7 n0 c0),.ext false (.s false 1 n1 c1),.ext false (.s false 2 n2 c2),.ext false (.s false 2 n3 c3)]):=by kernel_rfl
theorem bBd:Tryz.f54.body.isSome=true:=by kernel_rfl
theorem nBd(x y:Int):Nat.ble ([.agg [.v (.int .i64 x),.v (.int .i64 y)],.p 0 0,.p 1 0]:List SV).length Tryz.f54.ntmps=true:=by kernel_rfl
theorem zQt(fx ad ins u:Int)(n0 n1 n2 n3:Nat)(c0 c1 c2 c3:Nat→Nat→qG)(x y:Int)(Q:SV→List HO→Prop)(hq:Q (.v (.bool (qCm n3 u x y))) [.cells [.v (.int .i64 fx),.v (.int .i64 ad),.v (.int .i64 ins),.x 2 [],.x 3 [],.x 4 [],.x 5 []] 27,.cells [.v (.int .i64 u)] 3,.ext false (.s false 7 n0 c0),.ext false (.s false 1 n1 c1),.ext false (.s false 2 n2 c2),.ext false (.s false 2 n3 c3)]):zZ Tryz.prog 6 54 [.agg [.v (.int .i64 x),.v (.int .i64 y)],.p 0 0,.p 1 0] [.cells [.v (.int .i64 fx),.v (.int .i64 ad),.v (.int .i64 ins),.x 2 [],.x 3 [],.x 4 [],.x 5 []] 27,.cells [.v (.int .i64 u)] 3,.ext false (.s false 7 n0 c0),.ext false (.s false 1 n1 c1),.ext false (.s false 2 n2 c2),.ext false (.s false 2 n3 c3)] Q:=by
 refine qJ Tryz.func54 bBd ?_ ?_
 ·exact nBd x y
 refine xB hm 60 ((bdS fx ad ins u n0 n1 n2 n3 c0 c1 c2 c3 x y _ _).mpr ⟨?_⟩)
 simp only[qF]
 refine qE (fun h=>?_) (fun h=>qE (fun h2=>?_) (fun h2=>qE (fun h3=>?_) (fun h3=>?_)))
 ·rw[qCm,decide_eq_true (.inl h)] at hq; exact hq
 ·rw[qCm,decide_eq_true (.inr (.inl h2))] at hq; exact hq
 ·rw[qCm,decide_eq_true (.inr (.inr (.inl h3)))] at hq; exact hq
 ·rw[show decide (u≤y)=qCm n3 u x y from decide_eq_decide.2 (by omega)]; exact hq
noncomputable def gBd:List SV→List HO→Option ((SV→List HO→Prop)→Prop)
 | [.agg [.v (.int .i64 x),.v (.int .i64 y)],.p 0 0,.p 1 0],[.cells [.v (.int .i64 fx),.v (.int .i64 ad),.v (.int .i64 ins),.x 2 [],.x 3 [],.x 4 [],.x 5 []] 27,.cells [.v (.int .i64 u)] 3,.ext false (.s false 7 n0 c0),.ext false (.s false 1 n1 c1),.ext false (.s false 2 n2 c2),.ext false (.s false 2 n3 c3)]=>some fun Q=>Q (.v (.bool (qCm n3 u x y))) [.cells [.v (.int .i64 fx),.v (.int .i64 ad),.v (.int .i64 ins),.x 2 [],.x 3 [],.x 4 [],.x 5 []] 27,.cells [.v (.int .i64 u)] 3,.ext false (.s false 7 n0 c0),.ext false (.s false 1 n1 c1),.ext false (.s false 2 n2 c2),.ext false (.s false 2 n3 c3)]
 | _,_=>none
theorem zNl(args:List SV)(h:List HO)(tr:(SV→List HO→Prop)→Prop)(Q:SV→List HO→Prop)(hc:gBd args h=some tr)(ht:tr Q):zZ Tryz.prog h.length 54 args h Q:=by
 unfold gBd at hc
 split at hc
 ·simp only[sI] at hc
  subst hc
  exact zQt _ _ _ _ _ _ _ _ _ _ _ _ _ _ Q ht
 ·cases hc
noncomputable def zSv:Con Tryz.prog:=K72.addW 54 gBd zNl
end Go.Proofs.YtlmjdcbhpffanaaGreat
/- Is a copy wrong? -/
namespace Go.Proofs.YtlmjdcbhpffanaaGreat
open Go.Sx Go.Pl
set_option linter.unusedVariables false
set_option maxRecDepth 100000
theorem zUn(fx ad ins u:Int)(n0 n1 n2 n3:Nat)(c0 c1 c2 c3:Nat→Nat→qG)(x y z t:Int)(K:List It→St→Prop)(R:SV→List HO→Prop):W (xwp Tryz.prog X zSv [] 60 (fxM 7 Tryz.f56 [] []) [] [.at []] ⟨qR 0 [.agg [.v (.int .i64 x),.v (.int .i64 y),.v (.int .i64 z),.v (.int .i64 t)],.p 0 0],[.cells [.fn (.func 54) [] [.p 1 0,.p 2 0]] 115,.cells [.v (.int .i64 fx),.v (.int .i64 ad),.v (.int .i64 ins),.x 3 [],.x 4 [],.x 5 [],.x 6 []] 27,.cells [.v (.int .i64 u)] 3,.ext false (.s false 7 n0 c0),.ext false (.s false 1 n1 c1),.ext false (.s false 2 n2 c2),.ext false (.s false 2 n3 c3)]⟩ K R)=W (bif qCm n3 u x y then R (.v (.bool true)) [.cells [SV.fn (Fn.func 54) [] [.p 1 0,.p 2 0]] 115,.cells [.v (qA fx),.v (qA ad),.v (qA ins),.x 3 [],.x 4 [],.x 5 [],.x 6 []] 27,.cells [.v (qA u)] 3,.ext false (.s false 7 n0 c0),.ext false (.s false 1 n1 c1),.ext false (.s false 2 n2 c2),.ext false (.s false 2 n3 c3)] else R (.v (.bool (qCm n3 u z t))) [.cells [SV.fn (Fn.func 54) [] [.p 1 0,.p 2 0]] 115,.cells [.v (qA fx),.v (qA ad),.v (qA ins),.x 3 [],.x 4 [],.x 5 [],.x 6 []] 27,.cells [.v (qA u)] 3,.ext false (.s false 7 n0 c0),.ext false (.s false 1 n1 c1),.ext false (.s false 2 n2 c2),.ext false (.s false 2 n3 c3)]):=by kernel_rfl
theorem zWf:Tryz.f56.body.isSome=true:=by kernel_rfl
theorem zUq(x y z t:Int):Nat.ble ([.agg [.v (.int .i64 x),.v (.int .i64 y),.v (.int .i64 z),.v (.int .i64 t)],.p 0 0]:List SV).length Tryz.f56.ntmps=true:=by kernel_rfl
theorem zKk(fx ad ins u:Int)(n0 n1 n2 n3:Nat)(c0 c1 c2 c3:Nat→Nat→qG)(x y z t:Int)(Q:SV→List HO→Prop)(hq:Q (.v (.bool (qCm n3 u x y||qCm n3 u z t))) [.cells [.fn (.func 54) [] [.p 1 0,.p 2 0]] 115,.cells [.v (.int .i64 fx),.v (.int .i64 ad),.v (.int .i64 ins),.x 3 [],.x 4 [],.x 5 [],.x 6 []] 27,.cells [.v (.int .i64 u)] 3,.ext false (.s false 7 n0 c0),.ext false (.s false 1 n1 c1),.ext false (.s false 2 n2 c2),.ext false (.s false 2 n3 c3)]):zZ Tryz.prog 7 56 [.agg [.v (.int .i64 x),.v (.int .i64 y),.v (.int .i64 z),.v (.int .i64 t)],.p 0 0] [.cells [.fn (.func 54) [] [.p 1 0,.p 2 0]] 115,.cells [.v (.int .i64 fx),.v (.int .i64 ad),.v (.int .i64 ins),.x 3 [],.x 4 [],.x 5 [],.x 6 []] 27,.cells [.v (.int .i64 u)] 3,.ext false (.s false 7 n0 c0),.ext false (.s false 1 n1 c1),.ext false (.s false 2 n2 c2),.ext false (.s false 2 n3 c3)] Q:=by
 refine qJ Tryz.func56 zWf ?_ ?_
 ·exact zUq x y z t
 refine xB hm 60 ((zUn fx ad ins u n0 n1 n2 n3 c0 c1 c2 c3 x y z t _ _).mpr ⟨?_⟩)
 refine qM (fun h=>?_) (fun h=>?_)
 ·rw[h] at hq; exact hq
 ·rw[h] at hq; exact hq
noncomputable def zMr:List SV→List HO→Option ((SV→List HO→Prop)→Prop)
 | [.agg [.v (.int .i64 x),.v (.int .i64 y),.v (.int .i64 z),.v (.int .i64 t)],.p 0 0],[.cells [.fn (.func 54) [] [.p 1 0,.p 2 0]] 115,.cells [.v (.int .i64 fx),.v (.int .i64 ad),.v (.int .i64 ins),.x 3 [],.x 4 [],.x 5 [],.x 6 []] 27,.cells [.v (.int .i64 u)] 3,.ext false (.s false 7 n0 c0),.ext false (.s false 1 n1 c1),.ext false (.s false 2 n2 c2),.ext false (.s false 2 n3 c3)]=>some fun Q=>Q (.v (.bool (qCm n3 u x y||qCm n3 u z t))) [.cells [.fn (.func 54) [] [.p 1 0,.p 2 0]] 115,.cells [.v (.int .i64 fx),.v (.int .i64 ad),.v (.int .i64 ins),.x 3 [],.x 4 [],.x 5 [],.x 6 []] 27,.cells [.v (.int .i64 u)] 3,.ext false (.s false 7 n0 c0),.ext false (.s false 1 n1 c1),.ext false (.s false 2 n2 c2),.ext false (.s false 2 n3 c3)]
 | _,_=>none
theorem zGm(args:List SV)(h:List HO)(tr:(SV→List HO→Prop)→Prop)(Q:SV→List HO→Prop)(hc:zMr args h=some tr)(ht:tr Q):zZ Tryz.prog h.length 56 args h Q:=by
 unfold zMr at hc
 split at hc
 ·simp only[sI] at hc
  subst hc
  exact zKk _ _ _ _ _ _ _ _ _ _ _ _ _ _ _ _ Q ht
 ·cases hc
noncomputable def zPj:Con Tryz.prog:=zSv.addW 56 zMr zGm
end Go.Proofs.YtlmjdcbhpffanaaGreat
/- The first copy that is wrong. -/
namespace Go.Pl
open Go.Sx
structure lP (n : Nat) (c : Nat → Nat → qG) (k : List (Int × Int × Int × Int) → Prop) : Prop where
  h : ∃ l : List (Int × Int × Int × Int), n = l.length ∧ IsC n 4 c (cP l) ∧ l.length ≤ 17592186043904 ∧ k l
theorem zSx(l:List (Int×Int×Int×Int))(h:l.length≤17592186043904){k:List (Int×Int×Int×Int)→Prop}(hk:k l):lP l.length (cP l) k:=⟨⟨l,rfl,IsC.refl _ _ _,h,hk⟩⟩
end Go.Pl
namespace Go.Proofs.YtlmjdcbhpffanaaGreat
open Go.Sx Go.Pl
set_option linter.unusedVariables false
set_option maxRecDepth 100000
theorem zXi(fx ad ins u:Int)(n0 n1 n2 n3:Nat)(c0 c1 c2 c3:Nat→Nat→qG)(l:List (Int×Int×Int×Int))(K:List It→St→Prop)(R:SV→List HO→Prop):W (xwp Tryz.prog X zPj [] 60 (fxM 8 Tryz.f84 [] [⟨[0,1,0,1],[8,7,0,1],[]⟩]) [] [.at []] ⟨qR 0 [.x 0 [],.fn (.func 56) [] [.p 1 0]],[.ext false (.s false 4 l.length (cP l)),.cells [.fn (.func 54) [] [.p 2 0,.p 3 0]] 115,.cells [.v (.int .i64 fx),.v (.int .i64 ad),.v (.int .i64 ins),.x 4 [],.x 5 [],.x 6 [],.x 7 []] 27,.cells [.v (.int .i64 u)] 3,.ext false (.s false 7 n0 c0),.ext false (.s false 1 n1 c1),.ext false (.s false 2 n2 c2),.ext false (.s false 2 n3 c3)]⟩ K R)=W (K [.at [0,1,0,1],.blk 0,.at [1,1]] (St.mk [(8,.v (qA 0)),(7,.v (qA (↑l.length:Int))),(0,.x 0 []),(1,SV.fn (Fn.func 56) [] [.p 1 0])] [.ext false (.s false 4 l.length (cP l)),.cells [SV.fn (Fn.func 54) [] [.p 2 0,.p 3 0]] 115,.cells [.v (qA fx),.v (qA ad),.v (qA ins),.x 4 [],.x 5 [],.x 6 [],.x 7 []] 27,.cells [.v (qA u)] 3,.ext false (.s false 7 n0 c0),.ext false (.s false 1 n1 c1),.ext false (.s false 2 n2 c2),.ext false (.s false 2 n3 c3)])):=by kernel_rfl
theorem zRz(fx ad ins u:Int)(n0 n1 n2 n3:Nat)(c0 c1 c2 c3:Nat→Nat→qG)(l:List (Int×Int×Int×Int))(k M:Nat)(K:List It→St→Prop)(R:SV→List HO→Prop):W (xwp Tryz.prog X zPj [] 60 (fxM 8 Tryz.f84 [] [⟨[0,1,0,1],[8,7,0,1],[]⟩]) [] (.at [0,0,1,0,1]::.rnd [0,0,1,0,1] M::[.blk 0,.at [1,1]]) ⟨[(8,.v (.int .i64 (k:Int))),(7,.v (.int .i64 (l.length:Int))),(0,.x 0 []),(1,.fn (.func 56) [] [.p 1 0])],[.ext false (.s false 4 l.length (cP l)),.cells [.fn (.func 54) [] [.p 2 0,.p 3 0]] 115,.cells [.v (.int .i64 fx),.v (.int .i64 ad),.v (.int .i64 ins),.x 4 [],.x 5 [],.x 6 [],.x 7 []] 27,.cells [.v (.int .i64 u)] 3,.ext false (.s false 7 n0 c0),.ext false (.s false 1 n1 c1),.ext false (.s false 2 n2 c2),.ext false (.s false 2 n3 c3)]⟩ K R)=W (bif decide ((↑k:Int)<(↑l.length:Int)) then(∀ M:Mem,(0:Int)≤(↑k:Int)∧(↑k:Int)<(↑l.length:Int))∧(∀ M:Mem,k<List.length l)∧bif qCm n3 u (gP l k).1 (gP l k).2.1||qCm n3 u (gP l k).2.2.1 (gP l k).2.2.2 then R (.v (qA (↑k:Int))) [.ext false (.s false 4 l.length (cP l)),.cells [SV.fn (Fn.func 54) [] [.p 2 0,.p 3 0]] 115,.cells [.v (qA fx),.v (qA ad),.v (qA ins),.x 4 [],.x 5 [],.x 6 [],.x 7 []] 27,.cells [.v (qA u)] 3,.ext false (.s false 7 n0 c0),.ext false (.s false 1 n1 c1),.ext false (.s false 2 n2 c2),.ext false (.s false 2 n3 c3)] else K [.rnd [0,0,1,0,1] M,.blk 0,.at [1,1]] (St.mk [(8,.v (qA (IntKind.wrap .i64 ((↑k:Int)+(1:Int))))),(7,.v (qA (↑l.length:Int))),(0,.x 0 []),(1,SV.fn (Fn.func 56) [] [.p 1 0])] [.ext false (.s false 4 l.length (cP l)),.cells [SV.fn (Fn.func 54) [] [.p 2 0,.p 3 0]] 115,.cells [.v (qA fx),.v (qA ad),.v (qA ins),.x 4 [],.x 5 [],.x 6 [],.x 7 []] 27,.cells [.v (qA u)] 3,.ext false (.s false 7 n0 c0),.ext false (.s false 1 n1 c1),.ext false (.s false 2 n2 c2),.ext false (.s false 2 n3 c3)]) else R (.v (qA (-1))) [.ext false (.s false 4 l.length (cP l)),.cells [SV.fn (Fn.func 54) [] [.p 2 0,.p 3 0]] 115,.cells [.v (qA fx),.v (qA ad),.v (qA ins),.x 4 [],.x 5 [],.x 6 [],.x 7 []] 27,.cells [.v (qA u)] 3,.ext false (.s false 7 n0 c0),.ext false (.s false 1 n1 c1),.ext false (.s false 2 n2 c2),.ext false (.s false 2 n3 c3)]):=by kernel_rfl
theorem qTl(fx ad ins u:Int)(n0 n1 n2 n3:Nat)(c0 c1 c2 c3:Nat→Nat→qG)(l:List (Int×Int×Int×Int))(hl:l.length≤17592186043904)(Q:SV→List HO→Prop):∀(d k:Nat),k+d=l.length→Q (.v (.int .i64 (zA (qJj n3 u) k (l.drop k)))) [.ext false (.s false 4 l.length (cP l)),.cells [.fn (.func 54) [] [.p 2 0,.p 3 0]] 115,.cells [.v (.int .i64 fx),.v (.int .i64 ad),.v (.int .i64 ins),.x 4 [],.x 5 [],.x 6 [],.x 7 []] 27,.cells [.v (.int .i64 u)] 3,.ext false (.s false 7 n0 c0),.ext false (.s false 1 n1 c1),.ext false (.s false 2 n2 c2),.ext false (.s false 2 n3 c3)] →
  yV Tryz.prog 8 Tryz.f84 Q (.rnd [0,0,1,0,1] (d+1)::[.blk 0,.at [1,1]]) ⟨[(8,.v (.int .i64 (k:Int))),(7,.v (.int .i64 (l.length:Int))),(0,.x 0 []),(1,.fn (.func 56) [] [.p 1 0])],[.ext false (.s false 4 l.length (cP l)),.cells [.fn (.func 54) [] [.p 2 0,.p 3 0]] 115,.cells [.v (.int .i64 fx),.v (.int .i64 ad),.v (.int .i64 ins),.x 4 [],.x 5 [],.x 6 [],.x 7 []] 27,.cells [.v (.int .i64 u)] 3,.ext false (.s false 7 n0 c0),.ext false (.s false 1 n1 c1),.ext false (.s false 2 n2 c2),.ext false (.s false 2 n3 c3)]⟩
 | 0,k,hd,hq=>by
  refine FOk.rnd (xB hm 60 ((zRz fx ad ins u n0 n1 n2 n3 c0 c1 c2 c3 l k 0 _ _).mpr ⟨?_⟩))
  rw[qF,if_neg (by omega)]
  rw[show k=l.length by omega,List.drop_length] at hq
  exact hq
 | d+1,k,hd,hq=>by
  have hk:k<l.length:=by omega
  refine FOk.rnd (xB hm 60 ((zRz fx ad ins u n0 n1 n2 n3 c0 c1 c2 c3 l k (d+1) _ _).mpr ⟨?_⟩))
  rw[qF,if_pos (by omega),qL _ (by omega)]
  rw[qWt hk,qJj] at hq
  refine aI (aI (qM (fun h=>?_) (fun h=>?_)))
  ·rw[h] at hq; exact hq
  ·rw[h] at hq; exact qTl fx ad ins u n0 n1 n2 n3 c0 c1 c2 c3 l hl Q d (k+1) (by omega) hq
theorem zUr:Tryz.f84.body.isSome=true:=by kernel_rfl
theorem zVl:Nat.ble ([.x 0 [],.fn (.func 56) [] [.p 1 0]]:List SV).length Tryz.f84.ntmps=true:=by kernel_rfl
theorem zLy(fx ad ins u:Int)(n0 n1 n2 n3:Nat)(c0 c1 c2 c3:Nat→Nat→qG)(l:List (Int×Int×Int×Int))(hl:l.length≤17592186043904)(Q:SV→List HO→Prop)(hq:Q (.v (.int .i64 (zA (qJj n3 u) 0 l))) [.ext false (.s false 4 l.length (cP l)),.cells [.fn (.func 54) [] [.p 2 0,.p 3 0]] 115,.cells [.v (.int .i64 fx),.v (.int .i64 ad),.v (.int .i64 ins),.x 4 [],.x 5 [],.x 6 [],.x 7 []] 27,.cells [.v (.int .i64 u)] 3,.ext false (.s false 7 n0 c0),.ext false (.s false 1 n1 c1),.ext false (.s false 2 n2 c2),.ext false (.s false 2 n3 c3)]):zZ Tryz.prog 8 84 [.x 0 [],.fn (.func 56) [] [.p 1 0]] [.ext false (.s false 4 l.length (cP l)),.cells [.fn (.func 54) [] [.p 2 0,.p 3 0]] 115,.cells [.v (.int .i64 fx),.v (.int .i64 ad),.v (.int .i64 ins),.x 4 [],.x 5 [],.x 6 [],.x 7 []] 27,.cells [.v (.int .i64 u)] 3,.ext false (.s false 7 n0 c0),.ext false (.s false 1 n1 c1),.ext false (.s false 2 n2 c2),.ext false (.s false 2 n3 c3)] Q:=by
 refine qJ Tryz.func84 zUr ?_ ?_
 ·exact zVl
 refine xB hm 60 ((zXi fx ad ins u n0 n1 n2 n3 c0 c1 c2 c3 l _ _).mpr ⟨?_⟩)
 exact FOk.loop (l.length+1) (by kernel_rfl) (qTl fx ad ins u n0 n1 n2 n3 c0 c1 c2 c3 l hl Q l.length 0 (by omega) hq)
noncomputable def zKv:List SV→List HO→Option ((SV→List HO→Prop)→Prop)
 | [.x 0 [],.fn (.func 56) [] [.p 1 0]],[.ext false (.s false 4 n c),.cells [.fn (.func 54) [] [.p 2 0,.p 3 0]] 115,.cells [.v (.int .i64 fx),.v (.int .i64 ad),.v (.int .i64 ins),.x 4 [],.x 5 [],.x 6 [],.x 7 []] 27,.cells [.v (.int .i64 u)] 3,.ext false (.s false 7 n0 c0),.ext false (.s false 1 n1 c1),.ext false (.s false 2 n2 c2),.ext false (.s false 2 n3 c3)]=>some fun Q=>lP n c fun l=>Q (.v (.int .i64 (zA (qJj n3 u) 0 l))) [.ext false (.s false 4 l.length (cP l)),.cells [.fn (.func 54) [] [.p 2 0,.p 3 0]] 115,.cells [.v (.int .i64 fx),.v (.int .i64 ad),.v (.int .i64 ins),.x 4 [],.x 5 [],.x 6 [],.x 7 []] 27,.cells [.v (.int .i64 u)] 3,.ext false (.s false 7 n0 c0),.ext false (.s false 1 n1 c1),.ext false (.s false 2 n2 c2),.ext false (.s false 2 n3 c3)]
 | _,_=>none
theorem zGp(args:List SV)(h:List HO)(tr:(SV→List HO→Prop)→Prop)(Q:SV→List HO→Prop)(hc:zKv args h=some tr)(ht:tr Q):zZ Tryz.prog h.length 84 args h Q:=by
 unfold zKv at hc
 split at hc
 ·simp only[sI] at hc
  subst hc
  obtain⟨l,rfl,he,hl,hq⟩:=ht.h
  exact qI.ac (zLy _ _ _ _ _ _ _ _ _ _ _ _ l hl Q hq) ⟨⟨rfl,rfl,rfl,rfl,he⟩,HE.refl _,HE.refl _,HE.refl _,HE.refl _,HE.refl _,HE.refl _,HE.refl _,trivial⟩
 ·cases hc
noncomputable def K73:Con Tryz.prog:=((zPj.addW 84 zKv zGp).setW 55).setW 52
end Go.Proofs.YtlmjdcbhpffanaaGreat
/- Does a sheet fit? -/
namespace Go.Pl
open Go.Sx
def wrT(n u:Int)(t:List (List Nat)):Bool:=!((t.length:Int)==n)||t.any (qDq u)
def wrP(n:Nat)(u:Int)(l:List (Int×Int×Int×Int)):Bool:=decide (256<(l.length:Int))||l.any (qJj n u)
def xK(c:Cir)(k:Int)(s:Sht):Int:=if zY c≠0 then zY c else if k<3 then 60 else if 5<k then 60 else if wrT c.fx (usN k) s.fx then 130 else if wrT c.ad (usN k) s.ad then 130 else if wrT c.ins (usN k) s.is then 130 else if wrP c.eqs.length (usN k) s.cp then 130 else 0
structure lF (fx ad ins : Int) (n0 n1 n2 n3 m0 m1 m2 m3 : Nat) (c0 c1 c2 c3 d0 d1 d2 d3 : Nat → Nat → qG) (k : Cir → Sht → Prop) : Prop where
  h : lC fx ad ins n0 n1 n2 n3 c0 c1 c2 c3 fun c => lS m0 m1 m2 m3 d0 d1 d2 d3 fun s => k c s
theorem qDs(c:Cir)(hc:c.ok)(s:Sht)(hs:s.ok){k:Cir→Sht→Prop}(h:k c s):lF c.fx c.ad c.ins c.nodes.length c.gates.length c.looks.length c.eqs.length s.fx.length s.ad.length s.is.length s.cp.length (cN c.nodes) (cI c.gates) (cL c.looks) (cK c.eqs) (cT s.fx) (cT s.ad) (cT s.is) (cP s.cp) k:=⟨wS c hc (qIy s hs h)⟩
end Go.Pl
namespace Go.Proofs.YtlmjdcbhpffanaaGreat
open Go.Sx Go.Pl
set_option linter.unusedVariables false
set_option maxRecDepth 100000
theorem fiS(c:Cir)(s:Sht)(k:Int)(K:List It→St→Prop)(R:SV→List HO→Prop):W (xwp Tryz.prog X K73 [(36,[]),(52,[]),(53,[]),(55,[])] 60 (qK Tryz.f21 [] []) [] [.at []] ⟨qR 0 [.agg [.v (.int .i64 c.fx),.v (.int .i64 c.ad),.v (.int .i64 c.ins),.x 0 [],.x 1 [],.x 2 [],.x 3 []],.v (.int .i64 k),.agg [.x 4 [],.x 5 [],.x 6 [],.x 7 []]],[.ext false (.s false 7 c.nodes.length (cN c.nodes)),.ext false (.s false 1 c.gates.length (cI c.gates)),.ext false (.s false 2 c.looks.length (cL c.looks)),.ext false (.s false 2 c.eqs.length (cK c.eqs)),.ext false (.s false 1 s.fx.length (cT s.fx)),.ext false (.s false 1 s.ad.length (cT s.ad)),.ext false (.s false 1 s.is.length (cT s.is)),.ext false (.s false 4 s.cp.length (cP s.cp))]⟩ K R)=W (lC c.1 c.2 c.3 c.4.length c.5.length c.6.length c.7.length (cN c.4) (cI c.5) (cL c.6) (cK c.7) fun(c_1:Cir)=>bif !zY c_1==(0:Int) then R (.v (qA (zY c_1))) [] else bif decide (k<(3:Int)) then R (.v (qA 60)) [] else bif decide ((5:Int)<k) then R (.v (qA 60)) [] else(∀ M:Mem,0+1≤1)∧(∀ M:Mem,0+1≤1)∧(∀ M:Mem,0+1≤1)∧bif !(↑s.1.length:Int)==c.1 then R (.v (qA 130)) [] else lT s.1.length (cT s.1) fun(l:List (List Nat))=>lU (lc 1 [.v (qA (usN k))]) fun(u:Int)=>bif decide ((0:Int)≤zA (qDq u) 0 l) then R (.v (qA 130)) [] else bif !(↑s.2.length:Int)==c.2 then R (.v (qA 130)) [] else lT s.2.length (cT s.2) fun(l:List (List Nat))=>lU (lc 1 [.v (qA (usN k))]) fun(u:Int)=>bif decide ((0:Int)≤zA (qDq u) 0 l) then R (.v (qA 130)) [] else bif !(↑s.3.length:Int)==c.3 then R (.v (qA 130)) [] else lT s.3.length (cT s.3) fun(l:List (List Nat))=>lU (lc 1 [.v (qA (usN k))]) fun(u:Int)=>bif decide ((0:Int)≤zA (qDq u) 0 l) then R (.v (qA 130)) [] else bif decide ((256:Int)<(↑s.4.length:Int)) then R (.v (qA 130)) [] else lP s.4.length (cP s.4) fun(l:List (Int×Int×Int×Int))=>bif decide ((0:Int)≤zA (qJj c.7.length (usN k)) 0 l) then R (.v (qA 130)) [] else R (.v (qA 0)) []):=by kernel_rfl
theorem bFi:Tryz.f21.body.isSome=true:=by kernel_rfl
theorem nFi(c:Cir)(k:Int):Nat.ble ([.agg [.v (.int .i64 c.fx),.v (.int .i64 c.ad),.v (.int .i64 c.ins),.x 0 [],.x 1 [],.x 2 [],.x 3 []],.v (.int .i64 k),.agg [.x 4 [],.x 5 [],.x 6 [],.x 7 []]]:List SV).length Tryz.f21.ntmps=true:=by kernel_rfl
theorem zPx(c:Cir)(hc:c.ok)(s:Sht)(hs:s.ok)(k:Int)(Q:SV→List HO→Prop)(hq:Q (.v (.int .i64 (xK c k s))) []):qI Tryz.prog 21 [.agg [.v (.int .i64 c.fx),.v (.int .i64 c.ad),.v (.int .i64 c.ins),.x 0 [],.x 1 [],.x 2 [],.x 3 []],.v (.int .i64 k),.agg [.x 4 [],.x 5 [],.x 6 [],.x 7 []]] [.ext false (.s false 7 c.nodes.length (cN c.nodes)),.ext false (.s false 1 c.gates.length (cI c.gates)),.ext false (.s false 2 c.looks.length (cL c.looks)),.ext false (.s false 2 c.eqs.length (cK c.eqs)),.ext false (.s false 1 s.fx.length (cT s.fx)),.ext false (.s false 1 s.ad.length (cT s.ad)),.ext false (.s false 1 s.is.length (cT s.is)),.ext false (.s false 4 s.cp.length (cP s.cp))] Q:=by
 refine qJ Tryz.func21 bFi ?_ ?_
 ·exact nFi c k
 have hp:=hs.c.2
 refine qD hm 60 ((fiS c s k _ _).mpr ⟨?_⟩)
 rw[xK] at hq
 refine wS c hc ?_
 rw[qN,qT]
 refine qE (fun h0=>?_) (fun h0=>by rw[if_pos h0] at hq; exact hq)
 rw[if_neg (fun h=>h h0)] at hq
 rw[qF,qF]
 refine qE (fun h1=>by rw[if_pos h1] at hq; exact hq) (fun h1=>qE (fun h2=>by rw[if_neg h1,if_pos h2] at hq; exact hq) (fun h2=>?_))
 rw[if_neg h1,if_neg h2] at hq
 refine aI (aI (And.intro (fun _=>by omega) ?_))
 have one:∀(t:List (List Nat)) (n:Int) (X Y:Prop),okT t→(wrT n (usN k) t=true→X)→(wrT n (usN k) t=false→Y)→(bif !((t.length:Int)==n) then X else lT t.length (cT t) fun l=>lU (lc 1 [.v (qA (usN k))]) fun u=>bif decide ((0:Int)≤zA (qDq u) 0 l) then X else Y):=by
  intro t n X Y ho hx hy
  rw[wrT] at hx hy
  refine qM (fun e=>hx (by rw[e]; rfl)) (fun e=>qCp ho (zRc _ ?_))
  rw[e,Bool.false_or] at hx hy
  rw[yC]
  exact qM hx hy
 refine one _ _ _ _ hs.f (fun e=>by rw[if_pos e] at hq; exact hq) (fun e=>?_)
 rw[if_neg (by rw[e]; exact Bool.false_ne_true)] at hq
 refine one _ _ _ _ hs.a (fun e=>by rw[if_pos e] at hq; exact hq) (fun e=>?_)
 rw[if_neg (by rw[e]; exact Bool.false_ne_true)] at hq
 refine one _ _ _ _ hs.i (fun e=>by rw[if_pos e] at hq; exact hq) (fun e=>?_)
 rw[if_neg (by rw[e]; exact Bool.false_ne_true),wrP] at hq
 refine qM (fun e=>?_) (fun e=>zSx _ (by omega) ?_)
 ·rw[e] at hq; exact hq
 rw[e,Bool.false_or] at hq
 rw[yC]
 refine qM (fun e=>?_) (fun e=>?_)
 ·rw[if_pos e] at hq; exact hq
 ·rw[if_neg (by rw[e]; exact Bool.false_ne_true)] at hq; exact hq
noncomputable def gFi:List SV→List HO→Option ((SV→List HO→Prop)→Prop)
 | [.agg [.v (.int .i64 fx),.v (.int .i64 ad),.v (.int .i64 ins),.x 0 [],.x 1 [],.x 2 [],.x 3 []],.v (.int .i64 k),.agg [.x 4 [],.x 5 [],.x 6 [],.x 7 []]],[.ext false (.s false 7 n0 c0),.ext false (.s false 1 n1 c1),.ext false (.s false 2 n2 c2),.ext false (.s false 2 n3 c3),.ext false (.s false 1 m0 d0),.ext false (.s false 1 m1 d1),.ext false (.s false 1 m2 d2),.ext false (.s false 4 m3 d3)] =>
  some fun Q=>lF fx ad ins n0 n1 n2 n3 m0 m1 m2 m3 c0 c1 c2 c3 d0 d1 d2 d3 fun c s=>Q (.v (.int .i64 (xK c k s))) []
 | _,_=>none
theorem zPe(args:List SV)(h:List HO)(tr:(SV→List HO→Prop)→Prop)(Q:SV→List HO→Prop)(hc:gFi args h=some tr)(ht:tr Q):qI Tryz.prog 21 args h Q:=by
 unfold gFi at hc
 split at hc
 ·simp only[sI] at hc
  subst hc
  obtain⟨c,rfl,rfl,rfl,⟨rfl,e0⟩,⟨rfl,e1⟩,⟨rfl,e2⟩,⟨rfl,e3⟩,hk,ht2⟩:=ht.h.h
  obtain⟨s,⟨rfl,e4⟩,⟨rfl,e5⟩,⟨rfl,e6⟩,⟨rfl,e7⟩,hs,hq⟩:=ht2.h
  exact qI.ac (zPx c hk s hs _ Q hq) ⟨⟨rfl,rfl,rfl,rfl,e0⟩,⟨rfl,rfl,rfl,rfl,e1⟩,⟨rfl,rfl,rfl,rfl,e2⟩,⟨rfl,rfl,rfl,rfl,e3⟩,⟨rfl,rfl,rfl,rfl,e4⟩,⟨rfl,rfl,rfl,rfl,e5⟩,⟨rfl,rfl,rfl,rfl,e6⟩,⟨rfl,rfl,rfl,rfl,e7⟩,trivial⟩
 ·cases hc
noncomputable def K74:Con Tryz.prog:=K73.add 21 gFi zPe
end Go.Proofs.YtlmjdcbhpffanaaGreat
/- A filled circuit. -/
namespace Go.Pl
open Go.Sx
noncomputable def qCi(c:Cir)(s:Sht)(so k:Int)(qs:List (Int×Int×Int))(j:Nat):qG :=
 match j with
 | 0=>.v (.int .i64 c.fx)
 | 1=>.v (.int .i64 c.ad)
 | 2=>.v (.int .i64 c.ins)
 | 3=>.s false 7 c.nodes.length (cN c.nodes)
 | 4=>.s false 1 c.gates.length (cI c.gates)
 | 5=>.s false 2 c.looks.length (cL c.looks)
 | 6=>.s false 2 c.eqs.length (cK c.eqs)
 | 7=>.s false 1 s.fx.length (cT s.fx)
 | 8=>.s false 1 s.ad.length (cT s.ad)
 | 9=>.s false 1 s.is.length (cT s.is)
 | 10=>.s false 4 s.cp.length (cP s.cp)
 | 11=>.v (.int .i64 so)
 | 12=>.v (.int .i64 k)
 | 13=>.s false 3 qs.length (cQ qs)
 | _=>.v undef
def rIx(n r t:Int):Int:=IntKind.wrap .i64 ((Int.toNat (IntKind.wrap .i64 (r+t)%(18446744073709551616:Int))&&&Int.toNat (IntKind.wrap .i64 (n-(1:Int))%(18446744073709551616:Int)):Nat):Int)
def nOf(k:Int):Int:=IntKind.wrap .i64 ((1:Int)*(2:Int)^(if Int.toNat k≤64 then Int.toNat k else 64))
def atQ(s:Sht)(k r:Int)(qs:List (Int×Int×Int)):List Nat:=qs.map fun q=>atS s q.1 q.2.1 (rIx (nOf k) r q.2.2)
noncomputable def zT(c:Cir)(s:Sht)(so k:Int)(qs:List (Int×Int×Int))(r:Int):List Nat:=(vlR so qs (atQ s k r qs) c.nodes).1
structure lFk (fk : Nat → Nat → qG) (K : Cir → Sht → Int → Int → List (Int × Int × Int) → Prop) : Prop where
  h : ∃ (c : Cir) (s : Sht) (so k : Int) (qs : List (Int × Int × Int)), IsC 1 14 fk (fun _ j => qCi c s so k qs j) ∧ c.ok ∧ s.ok ∧ 0 ≤ k ∧ qs.length ≤ 4000000000000 ∧ K c s so k qs
theorem zCp{l:List (Int×Int×Int)}{k:Nat}(h:k<l.length):l.take (k+1)=l.take k++[gQ l k]:=by
 rw[List.take_add_one,List.getElem?_eq_getElem h,gQ,List.getD_eq_getElem?_getD,List.getElem?_eq_getElem h]; rfl
theorem qSx{s:Sht}{k r:Int}{qs:List (Int×Int×Int)}{i:Nat}(h:i<qs.length):atQ s k r (qs.take (i+1))=atQ s k r (qs.take i)++[atS s (gQ qs i).1 (gQ qs i).2.1 (rIx (nOf k) r (gQ qs i).2.2)]:=by
 rw[zCp h,atQ,List.map_append]; rfl
theorem qYo{s:Sht}(hs:s.ok)(k r:Int)(qs:List (Int×Int×Int)):∀ v∈atQ s k r qs,v<top:=by
 intro v hv
 obtain⟨q,_,rfl⟩:=List.mem_map.1 hv
 exact qRe hs _ _ _
end Go.Pl
namespace Go.Proofs.YtlmjdcbhpffanaaGreat
open Go.Sx Go.Pl
set_option linter.unusedVariables false
set_option maxRecDepth 100000
end Go.Proofs.YtlmjdcbhpffanaaGreat
/- The value of each node in a row. -/
namespace Go.Proofs.YtlmjdcbhpffanaaGreat
open Go.Sx Go.Pl
set_option linter.unusedVariables false
set_option maxRecDepth 100000
theorem rwS(c:Cir)(s:Sht)(so k:Int)(qs:List (Int×Int×Int))(r:Int)(K:List It→St→Prop)(R:SV→List HO→Prop):W (xwp Tryz.prog X K74 [] 60 (qK Tryz.f59 [] [⟨[0,1,0,1,1,1],[21,20,19,6,5,0,1],[(6,53,4)]⟩]) [] [.at []] ⟨qR 0 [.x 0 [],.v (.int .i64 r)],[.ext true (.s true 14 1 (fun _ j=>qCi c s so k qs j))]⟩ K R)=W ((∀ M:Mem,0<1)∧(∀ M:Mem,0<1)∧(∀ M:Mem,0<1)∧(∀ M:Mem,¬k<(0:Int))∧(∀ M:Mem,0<1)∧(∀ M:Mem,0<1)∧(∀ M:Mem,0<1)∧(∀ M:Mem,0<1)∧K [.at [0,1,0,1,1,1],.blk 0,.at [1,1,1,1]] (St.mk [(21,.v (qA 0)),(20,.v (qA (↑qs.length:Int))),(19,.x 0 [(14,0,13)]),(6,.o 1),(5,.v (qA (IntKind.wrap .i64 ((1:Int)*(2:Int)^if Int.toNat k≤64 then Int.toNat k else 64)))),(0,.x 0 []),(1,.v (qA r))] [.ext true (.s true 14 1 fun(x j:Nat)=>qCi c s so k qs j),.rowc 53 4 0 (.lit 1 [])])):=by kernel_rfl
theorem rwR(c:Cir)(s:Sht)(so k:Int)(qs:List (Int×Int×Int))(r:Int)(vs:List Nat)(n:Int)(m i M:Nat)(K:List It→St→Prop)(R:SV→List HO→Prop):W (xwp Tryz.prog X K74 [] 60 (qK Tryz.f59 [] [⟨[0,1,0,1,1,1],[21,20,19,6,5,0,1],[(6,53,4)]⟩]) [] (.at [0,0,1,0,1,1,1]::.rnd [0,0,1,0,1,1,1] M::[.blk 0,.at [1,1,1,1]]) ⟨[(21,.v (.int .i64 (i:Int))),(20,.v (.int .i64 (qs.length:Int))),(19,.x 0 [(14,0,13)]),(6,.o 1),(5,.v (.int .i64 n)),(0,.x 0 []),(1,.v (.int .i64 r))],[.ext true (.s true 14 1 (fun _ j=>qCi c s so k qs j)),.rowc 53 4 m (.fn (cE vs))]⟩ K R)=W (bif decide ((↑i:Int)<(↑qs.length:Int)) then(∀ M:Mem,0<1)∧(∀ M:Mem,(0:Int)≤(↑i:Int)∧(↑i:Int)<(↑qs.length:Int))∧(∀ M:Mem,0<1)∧(∀ M:Mem,i<List.length qs)∧(∀ M:Mem,0+3≤3)∧(∀ M:Mem,0<1)∧(∀ M:Mem,0<1)∧(∀ M:Mem,0<1)∧(∀ M:Mem,0<1)∧(∀ M:Mem,0<1)∧(∀ M:Mem,0<1)∧(∀ M:Mem,0<1)∧lS s.1.length s.2.length s.3.length s.4.length (cT s.1) (cT s.2) (cT s.3) (cP s.4) fun(s_1:Sht)=>(∀ M:Mem,(m+1)*32≤140737488355328∧m+1≤140737488355328)∧K [.rnd [0,0,1,0,1,1,1] M,.blk 0,.at [1,1,1,1]] (St.mk [(21,.v (qA (IntKind.wrap .i64 ((↑i:Int)+(1:Int))))),(20,.v (qA (↑qs.length:Int))),(19,.x 0 [(14,0,13)]),(6,.o 1),(5,.v (qA n)),(0,.x 0 []),(1,.v (qA r))] [.ext true (.s true 14 1 fun(x j:Nat)=>qCi c s so k qs j),.rowc 53 4 (m+1) (.app m (.fn (cE vs)) (.lit 4 [.v (qC (↑(qB (atS s_1 (gQ qs i).1 (gQ qs i).2.1 (IntKind.wrap .i64 (↑(Int.toNat (IntKind.wrap .i64 (r+(gQ qs i).2.2)%(18446744073709551616:Int))&&&Int.toNat (IntKind.wrap .i64 (n-(1:Int))%(18446744073709551616:Int))):Int))) 0):Int)),.v (qC (↑(qB (atS s_1 (gQ qs i).1 (gQ qs i).2.1 (IntKind.wrap .i64 (↑(Int.toNat (IntKind.wrap .i64 (r+(gQ qs i).2.2)%(18446744073709551616:Int))&&&Int.toNat (IntKind.wrap .i64 (n-(1:Int))%(18446744073709551616:Int))):Int))) 1):Int)),.v (qC (↑(qB (atS s_1 (gQ qs i).1 (gQ qs i).2.1 (IntKind.wrap .i64 (↑(Int.toNat (IntKind.wrap .i64 (r+(gQ qs i).2.2)%(18446744073709551616:Int))&&&Int.toNat (IntKind.wrap .i64 (n-(1:Int))%(18446744073709551616:Int))):Int))) 2):Int)),.v (qC (↑(qB (atS s_1 (gQ qs i).1 (gQ qs i).2.1 (IntKind.wrap .i64 (↑(Int.toNat (IntKind.wrap .i64 (r+(gQ qs i).2.2)%(18446744073709551616:Int))&&&Int.toNat (IntKind.wrap .i64 (n-(1:Int))%(18446744073709551616:Int))):Int))) 3):Int))]))]) else(∀ M:Mem,0<1)∧(∀ M:Mem,0<1)∧(∀ M:Mem,0<1)∧(∀ M:Mem,0<1)∧(∀ M:Mem,0<1)∧(∀ M:Mem,0<1)∧(∀ M:Mem,0<1)∧(∀ M:Mem,0<1)∧(∀ M:Mem,0<1)∧(∀ M:Mem,0<1)∧(∀ M:Mem,0<1)∧(∀ M:Mem,0<1)∧vlC c.4.length qs.length m (cN c.4) (cQ qs) (cE vs) fun(l:List Nd) (qs:List Qy) (vs:List Nat)=>R (.o 0) [.rowc 53 4 (List.length (vlR so qs vs l).1) (.fn (cE (vlR so qs vs l).1))]):=by kernel_rfl
theorem qYh(c:Cir)(hc:c.ok)(s:Sht)(hs:s.ok)(so k:Int)(qs:List (Int×Int×Int))(hq4:qs.length≤4000000000000)(r:Int)(Q:SV→List HO→Prop)(hq:Q (.o 0) [.rowc 53 4 (zT c s so k qs r).length (.fn (cE (zT c s so k qs r)))]):∀(d i:Nat) (vs:List Nat),i+d=qs.length→vs=atQ s k r (qs.take i) →
  FOk Tryz.prog Tryz.f59 Q (.rnd [0,0,1,0,1,1,1] (d+1)::[.blk 0,.at [1,1,1,1]]) ⟨[(21,.v (.int .i64 (i:Int))),(20,.v (.int .i64 (qs.length:Int))),(19,.x 0 [(14,0,13)]),(6,.o 1),(5,.v (.int .i64 (nOf k))),(0,.x 0 []),(1,.v (.int .i64 r))],[.ext true (.s true 14 1 (fun _ j=>qCi c s so k qs j)),.rowc 53 4 vs.length (.fn (cE vs))]⟩
 | 0,i,vs,hd,hv=>by
  have h1:=hc.n.2
  refine FOk.rnd (qD hm 60 ((rwR c s so k qs r vs (nOf k) vs.length i 0 _ _).mpr ⟨?_⟩))
  rw[qF,if_neg (by omega)]
  rw[show i=qs.length by omega,List.take_length] at hv
  refine aI (aI (aI (aI (aI (aI (aI (aI (aI (aI (aI (aI (⟨⟨c.nodes,qs,vs,rfl,IsC.refl _ _ _,rfl,IsC.refl _ _ _,rfl,IsC.refl _ _ _,by omega,by omega,fun x hx=>(hc.n.1 x hx).1,by rw[hv]; exact qYo hs k r qs,?_⟩⟩))))))))))))
  rw[hv]
  exact hq
 | d+1,i,vs,hd,hv=>by
  have hi:i<qs.length:=by omega
  have hlen:vs.length=i:=by rw[hv,atQ,List.length_map,List.length_take]; omega
  refine FOk.rnd (qD hm 60 ((rwR c s so k qs r vs (nOf k) vs.length i (d+1) _ _).mpr ⟨?_⟩))
  rw[qF,if_pos (by omega),qL _ (by omega)]
  have next:=qYh c hc s hs so k qs hq4 r Q hq d (i+1) (vs++[atS s (gQ qs i).1 (gQ qs i).2.1 (rIx (nOf k) r (gQ qs i).2.2)]) (by omega) (by rw[qSx hi,hv])
  rw[List.length_append,List.length_singleton] at next
  refine aI (aI (aI (aI (aI (aI (aI (aI (aI (aI (aI (aI (qIy s hs (And.intro (fun _=>by omega) ?_)))))))))))))
  exact FOk.cv next ⟨HE.refl _,⟨rfl,rfl,rfl,qJz _ rfl⟩,trivial⟩
theorem bRw:Tryz.f59.body.isSome=true:=by kernel_rfl
theorem nRw(r:Int):Nat.ble [SV.x 0 [],.v (.int .i64 r)].length Tryz.f59.ntmps=true:=by kernel_rfl
theorem zTm(c:Cir)(hc:c.ok)(s:Sht)(hs:s.ok)(so k:Int)(hk:0≤k)(qs:List (Int×Int×Int))(hq4:qs.length≤4000000000000)(r:Int)(Q:SV→List HO→Prop)(hq:Q (.x 0 []) [.ext false (.s false 4 (zT c s so k qs r).length (cE (zT c s so k qs r)))]):qI Tryz.prog 59 [.x 0 [],.v (.int .i64 r)] [.ext true (.s true 14 1 (fun _ j=>qCi c s so k qs j))] Q:=by
 have h0:qI Tryz.prog 59 [.x 0 [],.v (.int .i64 r)] [.ext true (.s true 14 1 (fun _ j=>qCi c s so k qs j))] (fun z h'=>z=.o 0∧h'=[.rowc 53 4 (zT c s so k qs r).length (.fn (cE (zT c s so k qs r)))]):=by
  refine qJ Tryz.func59 bRw ?_ ?_
  ·exact nRw r
  refine qD hm 60 ((rwS c s so k qs r _ _).mpr ⟨?_⟩)
  refine aI (aI (aI (aI (aI (aI (aI (aI (?_))))))))
  exact FOk.loop (qs.length+1) (by kernel_rfl) (FOk.cv (qYh c hc s hs so k qs hq4 r _ ⟨rfl,rfl⟩ qs.length 0 [] (by omega) rfl) ⟨HE.refl _,⟨rfl,rfl,rfl,fun k hk=>by simp at hk⟩,trivial⟩)
 have h:=qI.gc (r1:=.x 0 []) (h1:=[.ext false (.s false 4 (zT c s so k qs r).length (cE (zT c s so k qs r)))]) rfl (qI.frz1 0 rfl h0)
 exact qI.mono h fun z h' hh=>by rw[hh.1,hh.2]; exact hq
noncomputable def gRw:List SV→List HO→Option ((SV→List HO→Prop)→Prop)
 | [.x 0 [],.v (.int .i64 r)],[.ext true (.s true 14 1 fk)]=>some fun Q=>lFk fk fun c s so k qs=>Q (.x 0 []) [.ext false (.s false 4 (zT c s so k qs r).length (cE (zT c s so k qs r)))]
 | _,_=>none
theorem zJa(args:List SV)(h:List HO)(tr:(SV→List HO→Prop)→Prop)(Q:SV→List HO→Prop)(hc:gRw args h=some tr)(ht:tr Q):qI Tryz.prog 59 args h Q:=by
 unfold gRw at hc
 split at hc
 ·simp only[sI] at hc
  subst hc
  obtain⟨c,s,so,k,qs,e,hk,hs,h0,h4,hq⟩:=ht.h
  exact qI.ac (zTm c hk s hs so k h0 qs h4 _ Q hq) ⟨⟨rfl,rfl,rfl,rfl,e⟩,trivial⟩
 ·cases hc
noncomputable def K75:Con Tryz.prog:=K74.add 59 gRw zJa
end Go.Proofs.YtlmjdcbhpffanaaGreat
/- A row's values, as they are answered. -/
namespace Go.Sx
open Go.RowKit
theorem qI.nilTX{P:Program}{m:Nat}{f:FuncId}{args:List SV}{h:List HO}{Q:SV→List HO→Prop}(sz:Nat)(c:Nat→Nat→qG)(k:zZ P m f args h fun r h'=>Q r h'∨(∃ y,r=.tup [.v (.slice none 0 0),.v y]∧h'=[]∧Q (.tup [.x 0 [],.v y]) [.ext false (.s false sz 0 c)])):zZ P m f args h Q:=by
 intro F hF w0 e hm0 S hw
 refine(k F hF w0 e hm0 S hw).mono fun E w' hE=>?_
 obtain⟨e',r,h',hq,h2,h3,h4⟩:=hE
 rcases hq with hq | ⟨y,rfl,rfl,hq⟩
 ·exact⟨e',r,h',hq,h2,h3,h4⟩
 ·refine⟨e'.setV 0 (fun _=>.slice none 0 0) (fun _=>rfl),.tup [.x 0 [],.v y],_,hq,⟨Nat.zero_lt_one,trivial,trivial⟩,?_,by rw[h4]; simp [den,qS,Env.setV]⟩
  exact h3.newExt hF false (.s false sz 0 c) (fun _=>.slice none 0 0) (fun _=>rfl) ⟨none,⟨0,rfl,Nat.le_refl _⟩,.inl rfl⟩
end Go.Sx
namespace Go.Pl
open Go.Sx
theorem qPv(c:Cir)(hc:c.ok)(s:Sht)(hs:s.ok)(so k:Int)(hk:0≤k)(qs:List (Int×Int×Int))(hq4:qs.length≤4000000000000){K:Cir→Sht→Int→Int→List (Int×Int×Int)→Prop}(h:K c s so k qs):lFk (lc 14 [.v (qA c.1),.v (qA c.2),.v (qA c.3),.s false 7 (List.length c.4) (cN c.4),.s false 1 (List.length c.5) (cI c.5),.s false 2 (List.length c.6) (cL c.6),.s false 2 (List.length c.7) (cK c.7),.s false 1 (List.length s.1) (cT s.1),.s false 1 (List.length s.2) (cT s.2),.s false 1 (List.length s.3) (cT s.3),.s false 4 (List.length s.4) (cP s.4),.v (qA so),.v (qA k),.s false 3 qs.length (cQ qs)]) K :=
 ⟨⟨c,s,so,k,qs,fun i hi j hj=>by
  have e:i=0:=by omega
  subst e
  match j,hj with
  | 0,_=>rfl
  | 1,_=>rfl
  | 2,_=>rfl
  | 3,_=>rfl
  | 4,_=>rfl
  | 5,_=>rfl
  | 6,_=>rfl
  | 7,_=>rfl
  | 8,_=>rfl
  | 9,_=>rfl
  | 10,_=>rfl
  | 11,_=>rfl
  | 12,_=>rfl
  | 13,_=>rfl,hc,hs,hk,hq4,h⟩⟩
noncomputable def qAg(c:Cir)(s:Sht)(so k r:Int):List Nat×Int:=if fE so≠0 then([],fE so) else if xK c k s≠0 then([],xK c k s) else if r<0 then([],50) else if nOf k≤r then([],50) else(zT c s so k (qsN [] c.nodes) r,0)
theorem wK{c:Cir}{k:Int}{s:Sht}(h:xK c k s=0):zY c=0∧3≤k∧k≤5∧wrT c.fx (usN k) s.fx=false∧wrT c.ad (usN k) s.ad=false∧wrT c.ins (usN k) s.is=false∧wrP c.eqs.length (usN k) s.cp=false:=by
 rw[xK] at h
 by_cases h0:zY c=0
 ·rw[if_neg (fun hh=>hh h0)] at h
  by_cases h1:k<3
  ·rw[if_pos h1] at h; cases h
  rw[if_neg h1] at h
  by_cases h2:5<k
  ·rw[if_pos h2] at h; cases h
  rw[if_neg h2] at h
  refine⟨h0,by omega,by omega,?_⟩
  repeat' split at h
  all_goals first
   | cases h; done
   | simp_all
 ·rw[if_pos h0] at h; exact absurd h h0
theorem qDi{c:Cir}(h:zY c=0):c.nodes.length≤64:=by
 obtain⟨h0,_⟩:=xV h
 exact(qHu h0).1
end Go.Pl
namespace Go.Proofs.YtlmjdcbhpffanaaGreat
open Go.Sx Go.Pl
set_option linter.unusedVariables false
set_option maxRecDepth 100000
theorem zWg(c:Cir)(s:Sht)(so k r:Int)(K:List It→St→Prop)(R:SV→List HO→Prop):W (xwp Tryz.prog X K75 [(58,[])] 60 (qK Tryz.f28 [] []) [] [.at []] ⟨qR 0 [.v (.int .i64 so),.agg [.v (.int .i64 c.fx),.v (.int .i64 c.ad),.v (.int .i64 c.ins),.x 0 [],.x 1 [],.x 2 [],.x 3 []],.v (.int .i64 k),.agg [.x 4 [],.x 5 [],.x 6 [],.x 7 []],.v (.int .i64 r)],[.ext false (.s false 7 c.nodes.length (cN c.nodes)),.ext false (.s false 1 c.gates.length (cI c.gates)),.ext false (.s false 2 c.looks.length (cL c.looks)),.ext false (.s false 2 c.eqs.length (cK c.eqs)),.ext false (.s false 1 s.fx.length (cT s.fx)),.ext false (.s false 1 s.ad.length (cT s.ad)),.ext false (.s false 1 s.is.length (cT s.is)),.ext false (.s false 4 s.cp.length (cP s.cp))]⟩ K R)=W ((∀ M:Mem,0+4≤4)∧bif !fE so==(0:Int) then bif !fE so==(0:Int) then R (.tup [.v (Value.slice none 0 0),.v (qA (fE so))]) [] else bif decide (r<(0:Int)) then R (.tup [.v (Value.slice none 0 0),.v (qA 50)]) [] else(∀ M:Mem,¬k<(0:Int))∧bif decide (IntKind.wrap .i64 ((1:Int)*(2:Int)^if Int.toNat k≤64 then Int.toNat k else 64)≤r) then R (.tup [.v (Value.slice none 0 0),.v (qA 50)]) [] else K [It.ops [0,1,1,1,1] 2,.at [1,1,1,1,1]] (St.mk [(34,.v (qA r)),(33,.v (Value.pointer none)),(32,.bl false),(31,.v (.bool (decide (IntKind.wrap .i64 ((1:Int)*(2:Int)^if Int.toNat k≤64 then Int.toNat k else 64)≤r)))),(30,.v (qA (IntKind.wrap .i64 ((1:Int)*(2:Int)^if Int.toNat k≤64 then Int.toNat k else 64)))),(29,.v (qA k)),(28,.v (qA r)),(27,.bl false),(26,.v (.bool (decide (r<(0:Int))))),(25,.v (qA r)),(23,.bl false),(22,.v (qA (fE so))),(13,.v (qA (fE so))),(12,.v (Value.pointer none)),(21,.v (qA (fE so))),(20,.v (Value.pointer none)),(14,.tup [.v (Value.pointer none),.v (qA (fE so))]),(19,.tup [.v (Value.pointer none),.v (qA (fE so))]),(18,.agg [.x 4 [],.x 5 [],.x 6 [],.x 7 []]),(17,.v (qA k)),(16,.agg [.v (qA c.1),.v (qA c.2),.v (qA c.3),.x 0 [],.x 1 [],.x 2 [],.x 3 []]),(15,.v (qA so)),(11,.v (qA 0)),(10,.v (Value.slice none 0 0)),(8,.p 9 0),(6,.p 8 0),(0,.v (qA so)),(1,.agg [.v (qA c.1),.v (qA c.2),.v (qA c.3),.x 0 [],.x 1 [],.x 2 [],.x 3 []]),(2,.v (qA k)),(3,.agg [.x 4 [],.x 5 [],.x 6 [],.x 7 []]),(4,.v (qA r))] [.ext false (.s false 7 c.4.length (cN c.4)),.ext false (.s false 1 c.5.length (cI c.5)),.ext false (.s false 2 c.6.length (cL c.6)),.ext false (.s false 2 c.7.length (cK c.7)),.ext false (.s false 1 s.1.length (cT s.1)),.ext false (.s false 1 s.2.length (cT s.2)),.ext false (.s false 1 s.3.length (cT s.3)),.ext false (.s false 4 s.4.length (cP s.4)),.cells [.v (qA c.1),.v (qA c.2),.v (qA c.3),.x 0 [],.x 1 [],.x 2 [],.x 3 []] 27,.cells [.x 4 [],.x 5 [],.x 6 [],.x 7 []] 42]) else lF c.1 c.2 c.3 c.4.length c.5.length c.6.length c.7.length s.1.length s.2.length s.3.length s.4.length (cN c.4) (cI c.5) (cL c.6) (cK c.7) (cT s.1) (cT s.2) (cT s.3) (cP s.4) fun(c_1:Cir) (s_1:Sht)=>bif !xK c_1 k s_1==(0:Int) then bif !xK c_1 k s_1==(0:Int) then R (.tup [.v (Value.slice none 0 0),.v (qA (xK c_1 k s_1))]) [] else bif decide (r<(0:Int)) then R (.tup [.v (Value.slice none 0 0),.v (qA 50)]) [] else(∀ M:Mem,¬k<(0:Int))∧bif decide (IntKind.wrap .i64 ((1:Int)*(2:Int)^if Int.toNat k≤64 then Int.toNat k else 64)≤r) then R (.tup [.v (Value.slice none 0 0),.v (qA 50)]) [] else K [It.ops [0,1,1,1,1] 2,.at [1,1,1,1,1]] (St.mk [(34,.v (qA r)),(33,.v (Value.pointer none)),(32,.bl false),(31,.v (.bool (decide (IntKind.wrap .i64 ((1:Int)*(2:Int)^if Int.toNat k≤64 then Int.toNat k else 64)≤r)))),(30,.v (qA (IntKind.wrap .i64 ((1:Int)*(2:Int)^if Int.toNat k≤64 then Int.toNat k else 64)))),(29,.v (qA k)),(28,.v (qA r)),(27,.bl false),(26,.v (.bool (decide (r<(0:Int))))),(25,.v (qA r)),(23,.bl false),(22,.v (qA (xK c_1 k s_1))),(13,.v (qA (xK c_1 k s_1))),(12,.v (Value.pointer none)),(21,.v (qA (xK c_1 k s_1))),(20,.v (Value.pointer none)),(14,.tup [.v (Value.pointer none),.v (qA (xK c_1 k s_1))]),(19,.tup [.v (Value.pointer none),.v (qA (xK c_1 k s_1))]),(18,.agg [.x 4 [],.x 5 [],.x 6 [],.x 7 []]),(17,.v (qA k)),(16,.agg [.v (qA c.1),.v (qA c.2),.v (qA c.3),.x 0 [],.x 1 [],.x 2 [],.x 3 []]),(15,.v (qA so)),(11,.v (qA 0)),(10,.v (Value.slice none 0 0)),(8,.p 9 0),(6,.p 8 0),(0,.v (qA so)),(1,.agg [.v (qA c.1),.v (qA c.2),.v (qA c.3),.x 0 [],.x 1 [],.x 2 [],.x 3 []]),(2,.v (qA k)),(3,.agg [.x 4 [],.x 5 [],.x 6 [],.x 7 []]),(4,.v (qA r))] [.ext false (.s false 7 c.4.length (cN c.4)),.ext false (.s false 1 c.5.length (cI c.5)),.ext false (.s false 2 c.6.length (cL c.6)),.ext false (.s false 2 c.7.length (cK c.7)),.ext false (.s false 1 s.1.length (cT s.1)),.ext false (.s false 1 s.2.length (cT s.2)),.ext false (.s false 1 s.3.length (cT s.3)),.ext false (.s false 4 s.4.length (cP s.4)),.cells [.v (qA c.1),.v (qA c.2),.v (qA c.3),.x 0 [],.x 1 [],.x 2 [],.x 3 []] 27,.cells [.x 4 [],.x 5 [],.x 6 [],.x 7 []] 42]) else ∃(l:List Nd),List.length c.4=List.length l∧IsC c.4.length 7 (cN c.4) (cN l)∧List.length l≤4000000000000∧bif decide (r<(0:Int)) then R (.tup [.v (Value.slice none 0 0),.v (qA 50)]) [] else(∀ M:Mem,¬k<(0:Int))∧bif decide (IntKind.wrap .i64 ((1:Int)*(2:Int)^if Int.toNat k≤64 then Int.toNat k else 64)≤r) then R (.tup [.v (Value.slice none 0 0),.v (qA 50)]) [] else lFk (lc 14 [.v (qA c.1),.v (qA c.2),.v (qA c.3),.s false 7 c.4.length (cN c.4),.s false 1 c.5.length (cI c.5),.s false 2 c.6.length (cL c.6),.s false 2 c.7.length (cK c.7),.s false 1 s.1.length (cT s.1),.s false 1 s.2.length (cT s.2),.s false 1 s.3.length (cT s.3),.s false 4 s.4.length (cP s.4),.v (qA so),.v (qA k),.s false 3 (List.length (qsN [] l)) (cQ (qsN [] l))]) fun(c:Cir) (s:Sht) (so k:Int) (qs:List (Int×Int×Int))=>R (.tup [.x 0 [],.v (qA 0)]) [.ext false (.s false 4 (List.length (zT c s so k qs r)) (cE (zT c s so k qs r)))]):=by kernel_rfl
theorem zXn:Tryz.f28.body.isSome=true:=by kernel_rfl
theorem zVr(c:Cir)(so k r:Int):Nat.ble ([.v (.int .i64 so),.agg [.v (.int .i64 c.fx),.v (.int .i64 c.ad),.v (.int .i64 c.ins),.x 0 [],.x 1 [],.x 2 [],.x 3 []],.v (.int .i64 k),.agg [.x 4 [],.x 5 [],.x 6 [],.x 7 []],.v (.int .i64 r)]:List SV).length Tryz.f28.ntmps=true:=by kernel_rfl
theorem zMj(c:Cir)(hc:c.ok)(s:Sht)(hs:s.ok)(so k r:Int)(Q:SV→List HO→Prop)(hq:Q (.tup [.x 0 [],.v (.int .i64 (qAg c s so k r).2)]) [.ext false (.s false 4 (qAg c s so k r).1.length (cE (qAg c s so k r).1))]):qI Tryz.prog 28 [.v (.int .i64 so),.agg [.v (.int .i64 c.fx),.v (.int .i64 c.ad),.v (.int .i64 c.ins),.x 0 [],.x 1 [],.x 2 [],.x 3 []],.v (.int .i64 k),.agg [.x 4 [],.x 5 [],.x 6 [],.x 7 []],.v (.int .i64 r)] [.ext false (.s false 7 c.nodes.length (cN c.nodes)),.ext false (.s false 1 c.gates.length (cI c.gates)),.ext false (.s false 2 c.looks.length (cL c.looks)),.ext false (.s false 2 c.eqs.length (cK c.eqs)),.ext false (.s false 1 s.fx.length (cT s.fx)),.ext false (.s false 1 s.ad.length (cT s.ad)),.ext false (.s false 1 s.is.length (cT s.is)),.ext false (.s false 4 s.cp.length (cP s.cp))] Q:=by
 refine qI.nilTX 4 (cE []) (qJ Tryz.func28 zXn ?_ ?_)
 ·exact zVr c so k r
 refine qD hm 60 ((zWg c s so k r _ _).mpr ⟨?_⟩)
 rw[qAg] at hq
 simp only[qN,qT,qF]
 have bad:∀ z:Int,Q (.tup [.x 0 [],.v (.int .i64 z)]) [.ext false (.s false 4 0 (cE []))]→Q (SV.tup [.v (.slice none 0 0),.v (qA z)]) []∨∃ y,SV.tup [.v (.slice none 0 0),.v (qA z)]=SV.tup [.v (.slice none 0 0),.v y]∧True∧Q (.tup [.x 0 [],.v y]) [.ext false (.s false 4 0 (cE []))]:=fun z hz=>.inr ⟨_,rfl,trivial,hz⟩
 refine aI (qE (fun h0=>?_) (fun h0=>?_))
 ·rw[if_neg (fun h=>h h0)] at hq
  refine qDs c hc s hs (qE (fun h1=>?_) (fun h1=>?_))
  ·rw[if_neg (fun h=>h h1)] at hq
   obtain⟨hk0,hk3,_⟩:=wK h1
   have hl:=qDi hk0
   have hl2:=qFa c.nodes []
   rw[List.length_nil] at hl2
   refine⟨c.nodes,rfl,IsC.refl _ _ _,by omega,qE (fun h2=>?_) (fun h2=>aI (qE (fun h3=>?_) (fun h3=>?_)))⟩
   ·rw[if_pos h2] at hq; exact bad _ hq
   ·rw[if_neg h2,if_pos (show nOf k≤r from h3)] at hq; exact bad _ hq
   ·rw[if_neg h2,if_neg (show ¬ nOf k≤r from h3)] at hq
    exact qPv c hc s hs so k (by omega) (qsN [] c.nodes) (by omega) (.inl hq)
  ·rw[if_neg h1]
   rw[if_pos h1] at hq
   exact bad _ hq
 ·rw[if_neg h0]
  rw[if_pos h0] at hq
  exact bad _ hq
noncomputable def zKl:List SV→List HO→Option ((SV→List HO→Prop)→Prop)
 | [.v (.int .i64 so),.agg [.v (.int .i64 fx),.v (.int .i64 ad),.v (.int .i64 ins),.x 0 [],.x 1 [],.x 2 [],.x 3 []],.v (.int .i64 k),.agg [.x 4 [],.x 5 [],.x 6 [],.x 7 []],.v (.int .i64 r)],[.ext false (.s false 7 n0 c0),.ext false (.s false 1 n1 c1),.ext false (.s false 2 n2 c2),.ext false (.s false 2 n3 c3),.ext false (.s false 1 m0 d0),.ext false (.s false 1 m1 d1),.ext false (.s false 1 m2 d2),.ext false (.s false 4 m3 d3)] =>
  some fun Q=>lF fx ad ins n0 n1 n2 n3 m0 m1 m2 m3 c0 c1 c2 c3 d0 d1 d2 d3 fun c s=>Q (.tup [.x 0 [],.v (.int .i64 (qAg c s so k r).2)]) [.ext false (.s false 4 (qAg c s so k r).1.length (cE (qAg c s so k r).1))]
 | _,_=>none
theorem zFi(args:List SV)(h:List HO)(tr:(SV→List HO→Prop)→Prop)(Q:SV→List HO→Prop)(hc:zKl args h=some tr)(ht:tr Q):qI Tryz.prog 28 args h Q:=by
 unfold zKl at hc
 split at hc
 ·simp only[sI] at hc
  subst hc
  obtain⟨c,rfl,rfl,rfl,⟨rfl,e0⟩,⟨rfl,e1⟩,⟨rfl,e2⟩,⟨rfl,e3⟩,hk,ht2⟩:=ht.h.h
  obtain⟨s,⟨rfl,e4⟩,⟨rfl,e5⟩,⟨rfl,e6⟩,⟨rfl,e7⟩,hs,hq⟩:=ht2.h
  exact qI.ac (zMj c hk s hs _ _ _ Q hq) ⟨⟨rfl,rfl,rfl,rfl,e0⟩,⟨rfl,rfl,rfl,rfl,e1⟩,⟨rfl,rfl,rfl,rfl,e2⟩,⟨rfl,rfl,rfl,rfl,e3⟩,⟨rfl,rfl,rfl,rfl,e4⟩,⟨rfl,rfl,rfl,rfl,e5⟩,⟨rfl,rfl,rfl,rfl,e6⟩,⟨rfl,rfl,rfl,rfl,e7⟩,trivial⟩
 ·cases hc
noncomputable def K76:Con Tryz.prog:=K75.add 28 zKl zFi
end Go.Proofs.YtlmjdcbhpffanaaGreat
/- What a lookup asks for. -/
namespace Go.Pl
open Go.Sx
def tkN(l:List Nat)(ns:List Int)(j:Nat):Nat:=if j<ns.length then gE l (gI ns j).toNat else 0
structure lTk (nl nn : Nat) (cl cn : Nat → Nat → qG) (k : List Nat → List Int → Prop) : Prop where
  h : ∃ (l : List Nat) (ns : List Int), nl = l.length ∧ IsC nl 4 cl (cE l) ∧ nn = ns.length ∧ IsC nn 1 cn (cI ns) ∧ ns.length ≤ 4 ∧ (∀ g ∈ ns, 0 ≤ g ∧ g < (l.length : Int)) ∧ k l ns
theorem zCy(l:List Nat)(ns:List Int)(h4:ns.length≤4)(hg:∀ g∈ns,0≤g∧g<(l.length:Int)){k:List Nat→List Int→Prop}(h:k l ns):lTk l.length ns.length (cE l) (cI ns) k:=⟨⟨l,ns,rfl,IsC.refl _ _ _,rfl,IsC.refl _ _ _,h4,hg,h⟩⟩
end Go.Pl
namespace Go.Proofs.YtlmjdcbhpffanaaGreat
open Go.Sx Go.Pl
set_option linter.unusedVariables false
set_option maxRecDepth 100000
theorem pkS(b0 b1:Bool)(l:List Nat)(ns:List Int)(K:List It→St→Prop)(R:SV→List HO→Prop):W (xwp Tryz.prog X K76 [] 60 (qK Tryz.f89 [([0,1,0,1,1],5)] []) [] [.at []] ⟨qR 0 [.x 0 [],.x 1 []],[.ext b0 (.s false 4 l.length (cE l)),.ext b1 (.s false 1 ns.length (cI ns))]⟩ K R)=W (bif decide ((0:Int)<(↑ns.length:Int)) then(∀ M:Mem,(0:Int)≤(0:Int)∧(0:Int)<(↑ns.length:Int))∧(∀ M:Mem,0<List.length ns)∧(∀ M:Mem,(0:Int)≤gI ns 0∧gI ns 0<(↑l.length:Int))∧(∀ M:Mem,Int.toNat (gI ns 0)<List.length l)∧(∀ M:Mem,(0:Int)≤(0:Int)∧(0:Int)<(4:Int))∧(∀ M:Mem,0+4≤16)∧bif decide ((1:Int)<(↑ns.length:Int)) then(∀ M:Mem,(0:Int)≤(1:Int)∧(1:Int)<(↑ns.length:Int))∧(∀ M:Mem,1<List.length ns)∧(∀ M:Mem,(0:Int)≤gI ns 1∧gI ns 1<(↑l.length:Int))∧(∀ M:Mem,Int.toNat (gI ns 1)<List.length l)∧(∀ M:Mem,(0:Int)≤(1:Int)∧(1:Int)<(4:Int))∧(∀ M:Mem,4+4≤16)∧bif decide ((2:Int)<(↑ns.length:Int)) then(∀ M:Mem,(0:Int)≤(2:Int)∧(2:Int)<(↑ns.length:Int))∧(∀ M:Mem,2<List.length ns)∧(∀ M:Mem,(0:Int)≤gI ns 2∧gI ns 2<(↑l.length:Int))∧(∀ M:Mem,Int.toNat (gI ns 2)<List.length l)∧(∀ M:Mem,(0:Int)≤(2:Int)∧(2:Int)<(4:Int))∧(∀ M:Mem,8+4≤16)∧bif decide ((3:Int)<(↑ns.length:Int)) then(∀ M:Mem,(0:Int)≤(3:Int)∧(3:Int)<(↑ns.length:Int))∧(∀ M:Mem,3<List.length ns)∧(∀ M:Mem,(0:Int)≤gI ns 3∧gI ns 3<(↑l.length:Int))∧(∀ M:Mem,Int.toNat (gI ns 3)<List.length l)∧(∀ M:Mem,(0:Int)≤(3:Int)∧(3:Int)<(4:Int))∧(∀ M:Mem,12+4≤16)∧bif decide ((4:Int)<(↑ns.length:Int)) then(∀ M:Mem,(0:Int)≤(4:Int)∧(4:Int)<(↑ns.length:Int))∧(∀ M:Mem,4<List.length ns)∧(∀ M:Mem,(0:Int)≤gI ns 4∧gI ns 4<(↑l.length:Int))∧(∀ M:Mem,Int.toNat (gI ns 4)<List.length l)∧(∀ M:Mem,(0:Int)≤(4:Int)∧(4:Int)<(4:Int))∧(∀ M:Mem,16+4≤16)∧False else(∀ M:Mem,0+16≤16)∧R (.agg [.v (qC (↑(qB (gE l (Int.toNat (gI ns 0))) 0):Int)),.v (qC (↑(qB (gE l (Int.toNat (gI ns 0))) 1):Int)),.v (qC (↑(qB (gE l (Int.toNat (gI ns 0))) 2):Int)),.v (qC (↑(qB (gE l (Int.toNat (gI ns 0))) 3):Int)),.v (qC (↑(qB (gE l (Int.toNat (gI ns 1))) 0):Int)),.v (qC (↑(qB (gE l (Int.toNat (gI ns 1))) 1):Int)),.v (qC (↑(qB (gE l (Int.toNat (gI ns 1))) 2):Int)),.v (qC (↑(qB (gE l (Int.toNat (gI ns 1))) 3):Int)),.v (qC (↑(qB (gE l (Int.toNat (gI ns 2))) 0):Int)),.v (qC (↑(qB (gE l (Int.toNat (gI ns 2))) 1):Int)),.v (qC (↑(qB (gE l (Int.toNat (gI ns 2))) 2):Int)),.v (qC (↑(qB (gE l (Int.toNat (gI ns 2))) 3):Int)),.v (qC (↑(qB (gE l (Int.toNat (gI ns 3))) 0):Int)),.v (qC (↑(qB (gE l (Int.toNat (gI ns 3))) 1):Int)),.v (qC (↑(qB (gE l (Int.toNat (gI ns 3))) 2):Int)),.v (qC (↑(qB (gE l (Int.toNat (gI ns 3))) 3):Int))]) [] else(∀ M:Mem,0+16≤16)∧R (.agg [.v (qC (↑(qB (gE l (Int.toNat (gI ns 0))) 0):Int)),.v (qC (↑(qB (gE l (Int.toNat (gI ns 0))) 1):Int)),.v (qC (↑(qB (gE l (Int.toNat (gI ns 0))) 2):Int)),.v (qC (↑(qB (gE l (Int.toNat (gI ns 0))) 3):Int)),.v (qC (↑(qB (gE l (Int.toNat (gI ns 1))) 0):Int)),.v (qC (↑(qB (gE l (Int.toNat (gI ns 1))) 1):Int)),.v (qC (↑(qB (gE l (Int.toNat (gI ns 1))) 2):Int)),.v (qC (↑(qB (gE l (Int.toNat (gI ns 1))) 3):Int)),.v (qC (↑(qB (gE l (Int.toNat (gI ns 2))) 0):Int)),.v (qC (↑(qB (gE l (Int.toNat (gI ns 2))) 1):Int)),.v (qC (↑(qB (gE l (Int.toNat (gI ns 2))) 2):Int)),.v (qC (↑(qB (gE l (Int.toNat (gI ns 2))) 3):Int)),.v (qC 0),.v (qC 0),.v (qC 0),.v (qC 0)]) [] else(∀ M:Mem,0+16≤16)∧R (.agg [.v (qC (↑(qB (gE l (Int.toNat (gI ns 0))) 0):Int)),.v (qC (↑(qB (gE l (Int.toNat (gI ns 0))) 1):Int)),.v (qC (↑(qB (gE l (Int.toNat (gI ns 0))) 2):Int)),.v (qC (↑(qB (gE l (Int.toNat (gI ns 0))) 3):Int)),.v (qC (↑(qB (gE l (Int.toNat (gI ns 1))) 0):Int)),.v (qC (↑(qB (gE l (Int.toNat (gI ns 1))) 1):Int)),.v (qC (↑(qB (gE l (Int.toNat (gI ns 1))) 2):Int)),.v (qC (↑(qB (gE l (Int.toNat (gI ns 1))) 3):Int)),.v (qC 0),.v (qC 0),.v (qC 0),.v (qC 0),.v (qC 0),.v (qC 0),.v (qC 0),.v (qC 0)]) [] else(∀ M:Mem,0+16≤16)∧R (.agg [.v (qC (↑(qB (gE l (Int.toNat (gI ns 0))) 0):Int)),.v (qC (↑(qB (gE l (Int.toNat (gI ns 0))) 1):Int)),.v (qC (↑(qB (gE l (Int.toNat (gI ns 0))) 2):Int)),.v (qC (↑(qB (gE l (Int.toNat (gI ns 0))) 3):Int)),.v (qC 0),.v (qC 0),.v (qC 0),.v (qC 0),.v (qC 0),.v (qC 0),.v (qC 0),.v (qC 0),.v (qC 0),.v (qC 0),.v (qC 0),.v (qC 0)]) [] else(∀ M:Mem,16≤16)∧R (.agg [.v (qC 0),.v (qC 0),.v (qC 0),.v (qC 0),.v (qC 0),.v (qC 0),.v (qC 0),.v (qC 0),.v (qC 0),.v (qC 0),.v (qC 0),.v (qC 0),.v (qC 0),.v (qC 0),.v (qC 0),.v (qC 0)]) []):=by kernel_rfl
theorem bPk:Tryz.f89.body.isSome=true:=by kernel_rfl
theorem nPk:Nat.ble [SV.x 0 [],.x 1 []].length Tryz.f89.ntmps=true:=by kernel_rfl
theorem zQk(b0 b1:Bool)(l:List Nat)(ns:List Int)(h4:ns.length≤4)(hg:∀ g∈ns,0≤g∧g<(l.length:Int))(Q:SV→List HO→Prop)(hq:Q (.agg [.v (.int .u64 (qB (tkN l ns 0) 0:Nat)),.v (.int .u64 (qB (tkN l ns 0) 1:Nat)),.v (.int .u64 (qB (tkN l ns 0) 2:Nat)),.v (.int .u64 (qB (tkN l ns 0) 3:Nat)),.v (.int .u64 (qB (tkN l ns 1) 0:Nat)),.v (.int .u64 (qB (tkN l ns 1) 1:Nat)),.v (.int .u64 (qB (tkN l ns 1) 2:Nat)),.v (.int .u64 (qB (tkN l ns 1) 3:Nat)),.v (.int .u64 (qB (tkN l ns 2) 0:Nat)),.v (.int .u64 (qB (tkN l ns 2) 1:Nat)),.v (.int .u64 (qB (tkN l ns 2) 2:Nat)),.v (.int .u64 (qB (tkN l ns 2) 3:Nat)),.v (.int .u64 (qB (tkN l ns 3) 0:Nat)),.v (.int .u64 (qB (tkN l ns 3) 1:Nat)),.v (.int .u64 (qB (tkN l ns 3) 2:Nat)),.v (.int .u64 (qB (tkN l ns 3) 3:Nat))]) []):qI Tryz.prog 89 [.x 0 [],.x 1 []] [.ext b0 (.s false 4 l.length (cE l)),.ext b1 (.s false 1 ns.length (cI ns))] Q:=by
 refine qJ Tryz.func89 bPk ?_ ?_
 ·exact nPk
 refine qD hm 60 ((pkS b0 b1 l ns _ _).mpr ⟨?_⟩)
 have g:∀ j,j<ns.length→0≤gI ns j∧gI ns j<(l.length:Int):=fun j hj=>hg _ (xI hj)
 simp only[qF]
 refine qE (fun h0=>?_) (fun h0=>?_)
 ·have g0:=g 0 (by omega)
  refine aI (aI (aI (aI (aI (aI (qE (fun h1=>?_) (fun h1=>?_)))))))
  ·have g1:=g 1 (by omega)
   refine aI (aI (aI (aI (aI (aI (qE (fun h2=>?_) (fun h2=>?_)))))))
   ·have g2:=g 2 (by omega)
    refine aI (aI (aI (aI (aI (aI (qE (fun h3=>?_) (fun h3=>?_)))))))
    ·have g3:=g 3 (by omega)
     refine aI (aI (aI (aI (aI (aI (qE (fun h5=>absurd h5 (by omega)) (fun h5=>?_)))))))
     rw[show tkN l ns 0=gE l (gI ns 0).toNat from if_pos (by omega)] at hq
     rw[show tkN l ns 1=gE l (gI ns 1).toNat from if_pos (by omega)] at hq
     rw[show tkN l ns 2=gE l (gI ns 2).toNat from if_pos (by omega)] at hq
     rw[show tkN l ns 3=gE l (gI ns 3).toNat from if_pos (by omega)] at hq
     exact And.intro (fun _=>by omega) hq
    ·skip
     rw[show tkN l ns 0=gE l (gI ns 0).toNat from if_pos (by omega)] at hq
     rw[show tkN l ns 1=gE l (gI ns 1).toNat from if_pos (by omega)] at hq
     rw[show tkN l ns 2=gE l (gI ns 2).toNat from if_pos (by omega)] at hq
     rw[show tkN l ns 3=0 from if_neg (by omega)] at hq
     simp only[xG] at hq
     exact And.intro (fun _=>by omega) hq
   ·skip
    rw[show tkN l ns 0=gE l (gI ns 0).toNat from if_pos (by omega)] at hq
    rw[show tkN l ns 1=gE l (gI ns 1).toNat from if_pos (by omega)] at hq
    rw[show tkN l ns 2=0 from if_neg (by omega)] at hq
    rw[show tkN l ns 3=0 from if_neg (by omega)] at hq
    simp only[xG] at hq
    exact And.intro (fun _=>by omega) hq
  ·skip
   rw[show tkN l ns 0=gE l (gI ns 0).toNat from if_pos (by omega)] at hq
   rw[show tkN l ns 1=0 from if_neg (by omega)] at hq
   rw[show tkN l ns 2=0 from if_neg (by omega)] at hq
   rw[show tkN l ns 3=0 from if_neg (by omega)] at hq
   simp only[xG] at hq
   exact And.intro (fun _=>by omega) hq
 ·skip
  rw[show tkN l ns 0=0 from if_neg (by omega)] at hq
  rw[show tkN l ns 1=0 from if_neg (by omega)] at hq
  rw[show tkN l ns 2=0 from if_neg (by omega)] at hq
  rw[show tkN l ns 3=0 from if_neg (by omega)] at hq
  simp only[xG] at hq
  exact And.intro (fun _=>by omega) hq
noncomputable def gPk:List SV→List HO→Option ((SV→List HO→Prop)→Prop)
 | [.x 0 [],.x 1 []],[.ext _ (.s false 4 nl cl),.ext _ (.s false 1 nn cn)]=>some fun Q=>lTk nl nn cl cn fun l ns=>Q (.agg [.v (.int .u64 (qB (tkN l ns 0) 0:Nat)),.v (.int .u64 (qB (tkN l ns 0) 1:Nat)),.v (.int .u64 (qB (tkN l ns 0) 2:Nat)),.v (.int .u64 (qB (tkN l ns 0) 3:Nat)),.v (.int .u64 (qB (tkN l ns 1) 0:Nat)),.v (.int .u64 (qB (tkN l ns 1) 1:Nat)),.v (.int .u64 (qB (tkN l ns 1) 2:Nat)),.v (.int .u64 (qB (tkN l ns 1) 3:Nat)),.v (.int .u64 (qB (tkN l ns 2) 0:Nat)),.v (.int .u64 (qB (tkN l ns 2) 1:Nat)),.v (.int .u64 (qB (tkN l ns 2) 2:Nat)),.v (.int .u64 (qB (tkN l ns 2) 3:Nat)),.v (.int .u64 (qB (tkN l ns 3) 0:Nat)),.v (.int .u64 (qB (tkN l ns 3) 1:Nat)),.v (.int .u64 (qB (tkN l ns 3) 2:Nat)),.v (.int .u64 (qB (tkN l ns 3) 3:Nat))]) []
 | _,_=>none
theorem zPc(args:List SV)(h:List HO)(tr:(SV→List HO→Prop)→Prop)(Q:SV→List HO→Prop)(hc:gPk args h=some tr)(ht:tr Q):qI Tryz.prog 89 args h Q:=by
 unfold gPk at hc
 split at hc
 ·simp only[sI] at hc
  subst hc
  obtain⟨l,ns,rfl,e0,rfl,e1,h4,hg,hq⟩:=ht.h
  exact qI.ac (zQk _ _ l ns h4 hg Q hq) ⟨⟨rfl,rfl,rfl,rfl,e0⟩,⟨rfl,rfl,rfl,rfl,e1⟩,trivial⟩
 ·cases hc
noncomputable def K77:Con Tryz.prog:=K76.add 89 gPk zPc
end Go.Proofs.YtlmjdcbhpffanaaGreat
/- The rows at which a lookup isn't met. -/
namespace Go.Pl
open Go.Sx
noncomputable def tK(l:List Nat)(ns:List Int):List Int:=[(qB (tkN l ns 0) 0:Int),(qB (tkN l ns 0) 1:Int),(qB (tkN l ns 0) 2:Int),(qB (tkN l ns 0) 3:Int),(qB (tkN l ns 1) 0:Int),(qB (tkN l ns 1) 1:Int),(qB (tkN l ns 1) 2:Int),(qB (tkN l ns 1) 3:Int),(qB (tkN l ns 2) 0:Int),(qB (tkN l ns 2) 1:Int),(qB (tkN l ns 2) 2:Int),(qB (tkN l ns 2) 3:Int),(qB (tkN l ns 3) 0:Int),(qB (tkN l ns 3) 1:Int),(qB (tkN l ns 3) 2:Int),(qB (tkN l ns 3) 3:Int)]
noncomputable def qEh(rows:List (List Nat))(tabs:List Int):List (List Int):=rows.foldl (fun ks r=>yF ks (tK r tabs)) []
noncomputable def qFm(ks:List (List Int))(ins:List Int):Int→List (List Nat)→List Int
 | i,r::t=>(bif xJ ks (tK r ins) then[] else[i])++qFm ks ins (i+1) t
 | _,[]=>[]
noncomputable def xX(rows:List (List Nat))(ins tabs:List Int):List Int:=qFm (qEh rows tabs) ins 0 rows
structure lLo (nr ni nt : Nat) (cr ci ct : Nat → Nat → qG) (k : List (List Nat) → List Int → List Int → Prop) : Prop where
  h : ∃ (rows : List (List Nat)) (ins tabs : List Int), (nr = rows.length ∧ IsC nr 1 cr (cT rows)) ∧ (ni = ins.length ∧ IsC ni 1 ci (cI ins)) ∧ (nt = tabs.length ∧ IsC nt 1 ct (cI tabs)) ∧ rows.length ≤ 4000000000000 ∧ ins.length ≤ 4 ∧ tabs.length ≤ 4 ∧ (∀ r ∈ rows, (∀ g ∈ ins, 0 ≤ g ∧ g < (r.length : Int)) ∧ ∀ g ∈ tabs, 0 ≤ g ∧ g < (r.length : Int)) ∧ k rows ins tabs
theorem qIn(ks:List (List Int))(ins:List Int):∀(rows:List (List Nat)) (i:Int),(qFm ks ins i rows).length≤rows.length
 | [],_=>Nat.le_refl _
 | r::t,i=>by
  have:=qIn ks ins t (i+1)
  rw[qFm,List.length_append,List.length_cons]
  cases xJ ks (tK r ins) <;> simp <;> omega
end Go.Pl
namespace Go.Proofs.YtlmjdcbhpffanaaGreat
open Go.Sx Go.Pl
set_option linter.unusedVariables false
set_option maxRecDepth 100000
theorem zXp(b0 b1 b2:Bool)(rows:List (List Nat))(ins tabs:List Int)(K:List It→St→Prop)(R:SV→List HO→Prop):W (xwp Tryz.prog X K77 [] 60 (qK Tryz.f61 [] [⟨[0,1,0,1,1],[16,15,14,5,3,0],[]⟩,⟨[0,1,0,1,1,1,1],[29,28,27,8,5,3],[(8,3,1)]⟩]) [] [.at []] ⟨qR 0 [.x 0 [],.agg [.x 1 [],.x 2 []]],[.ext b0 (.s false 1 rows.length (cT rows)),.ext b1 (.s false 1 ins.length (cI ins)),.ext b2 (.s false 1 tabs.length (cI tabs))]⟩ K R)=W (K [.at [0,1,0,1,1],.blk 0,.at [1,1,1]] (St.mk [(16,.v (qA 0)),(15,.v (qA (↑rows.length:Int))),(14,.x 0 []),(5,.m 1),(3,.p 2 0),(0,.x 0 [])] [.ext b0 (.s false 1 rows.length (cT rows)),.mp true [IntKind.u64,IntKind.u64,IntKind.u64,IntKind.u64,IntKind.u64,IntKind.u64,IntKind.u64,IntKind.u64,IntKind.u64,IntKind.u64,IntKind.u64,IntKind.u64,IntKind.u64,IntKind.u64,IntKind.u64,IntKind.u64] [] Mc.unit,.cells [.x 3 [],.x 4 []] 76,.ext b1 (.s false 1 ins.length (cI ins)),.ext b2 (.s false 1 tabs.length (cI tabs))])):=by kernel_rfl
theorem zTt(b0 b1 b2:Bool)(rows:List (List Nat))(ins tabs:List Int)(kl:List (List Int))(k M:Nat)(K:List It→St→Prop)(R:SV→List HO→Prop):W (xwp Tryz.prog X K77 [] 60 (qK Tryz.f61 [] [⟨[0,1,0,1,1],[16,15,14,5,3,0],[]⟩,⟨[0,1,0,1,1,1,1],[29,28,27,8,5,3],[(8,3,1)]⟩]) [] (.at [0,0,1,0,1,1]::.rnd [0,0,1,0,1,1] M::[.blk 0,.at [1,1,1]]) ⟨[(16,.v (.int .i64 (k:Int))),(15,.v (.int .i64 (rows.length:Int))),(14,.x 0 []),(5,.m 1),(3,.p 2 0),(0,.x 0 [])],[.ext b0 (.s false 1 rows.length (cT rows)),.mp true [.u64,.u64,.u64,.u64,.u64,.u64,.u64,.u64,.u64,.u64,.u64,.u64,.u64,.u64,.u64,.u64] kl .unit,.cells [.x 3 [],.x 4 []] 76,.ext b1 (.s false 1 ins.length (cI ins)),.ext b2 (.s false 1 tabs.length (cI tabs))]⟩ K R)=W (bif decide ((↑k:Int)<(↑rows.length:Int)) then(∀ M:Mem,(0:Int)≤(↑k:Int)∧(↑k:Int)<(↑rows.length:Int))∧(∀ M:Mem,k<List.length rows)∧(∀ M:Mem,k<List.length rows)∧lTk (List.length (gT rows k)) tabs.length (cE (gT rows k)) (cI tabs) fun(l:List Nat) (ns:List Int)=>K [.rnd [0,0,1,0,1,1] M,.blk 0,.at [1,1,1]] (St.mk [(16,.v (qA (IntKind.wrap .i64 ((↑k:Int)+(1:Int))))),(15,.v (qA (↑rows.length:Int))),(14,.x 0 []),(5,.m 1),(3,.p 2 0),(0,.x 0 [])] [.ext b0 (.s false 1 rows.length (cT rows)),.mp true [IntKind.u64,IntKind.u64,IntKind.u64,IntKind.u64,IntKind.u64,IntKind.u64,IntKind.u64,IntKind.u64,IntKind.u64,IntKind.u64,IntKind.u64,IntKind.u64,IntKind.u64,IntKind.u64,IntKind.u64,IntKind.u64] (yF kl [(↑(qB (tkN l ns 0) 0):Int),(↑(qB (tkN l ns 0) 1):Int),(↑(qB (tkN l ns 0) 2):Int),(↑(qB (tkN l ns 0) 3):Int),(↑(qB (tkN l ns 1) 0):Int),(↑(qB (tkN l ns 1) 1):Int),(↑(qB (tkN l ns 1) 2):Int),(↑(qB (tkN l ns 1) 3):Int),(↑(qB (tkN l ns 2) 0):Int),(↑(qB (tkN l ns 2) 1):Int),(↑(qB (tkN l ns 2) 2):Int),(↑(qB (tkN l ns 2) 3):Int),(↑(qB (tkN l ns 3) 0):Int),(↑(qB (tkN l ns 3) 1):Int),(↑(qB (tkN l ns 3) 2):Int),(↑(qB (tkN l ns 3) 3):Int)]) Mc.unit,.cells [.x 3 [],.x 4 []] 76,.ext b1 (.s false 1 ins.length (cI ins)),.ext b2 (.s false 1 tabs.length (cI tabs))]) else K [.at [0,1,0,1,1,1,1],.blk 2,.at [1,1,1,1,1]] (St.mk [(29,.v (qA 0)),(28,.v (qA (↑rows.length:Int))),(27,.x 0 []),(8,.o 1),(5,.m 2),(3,.p 3 0)] [.ext b0 (.s false 1 rows.length (cT rows)),.rowc 3 1 0 (.lit 1 []),.mp true [IntKind.u64,IntKind.u64,IntKind.u64,IntKind.u64,IntKind.u64,IntKind.u64,IntKind.u64,IntKind.u64,IntKind.u64,IntKind.u64,IntKind.u64,IntKind.u64,IntKind.u64,IntKind.u64,IntKind.u64,IntKind.u64] kl Mc.unit,.cells [.x 4 [],.x 5 []] 76,.ext b1 (.s false 1 ins.length (cI ins)),.ext b2 (.s false 1 tabs.length (cI tabs))])):=by kernel_rfl
theorem zSm(b0 b1 b2:Bool)(rows:List (List Nat))(ins tabs:List Int)(kl:List (List Int))(os:List Int)(m k M:Nat)(K:List It→St→Prop)(R:SV→List HO→Prop):W (xwp Tryz.prog X K77 [] 60 (qK Tryz.f61 [] [⟨[0,1,0,1,1],[16,15,14,5,3,0],[]⟩,⟨[0,1,0,1,1,1,1],[29,28,27,8,5,3],[(8,3,1)]⟩]) [] (.at [0,0,1,0,1,1,1,1]::.rnd [0,0,1,0,1,1,1,1] M::[.blk 2,.at [1,1,1,1,1]]) ⟨[(29,.v (.int .i64 (k:Int))),(28,.v (.int .i64 (rows.length:Int))),(27,.x 0 []),(8,.o 1),(5,.m 2),(3,.p 3 0)],[.ext b0 (.s false 1 rows.length (cT rows)),.rowc 3 1 m (.fn (cI os)),.mp true [.u64,.u64,.u64,.u64,.u64,.u64,.u64,.u64,.u64,.u64,.u64,.u64,.u64,.u64,.u64,.u64] kl .unit,.cells [.x 4 [],.x 5 []] 76,.ext b1 (.s false 1 ins.length (cI ins)),.ext b2 (.s false 1 tabs.length (cI tabs))]⟩ K R)=W (bif decide ((↑k:Int)<(↑rows.length:Int)) then(∀ M:Mem,(0:Int)≤(↑k:Int)∧(↑k:Int)<(↑rows.length:Int))∧(∀ M:Mem,k<List.length rows)∧(∀ M:Mem,k<List.length rows)∧lTk (List.length (gT rows k)) ins.length (cE (gT rows k)) (cI ins) fun(l:List Nat) (ns:List Int)=>(∀ M:Mem,0≤0)∧bif !xJ kl [(↑(qB (tkN l ns 0) 0):Int),(↑(qB (tkN l ns 0) 1):Int),(↑(qB (tkN l ns 0) 2):Int),(↑(qB (tkN l ns 0) 3):Int),(↑(qB (tkN l ns 1) 0):Int),(↑(qB (tkN l ns 1) 1):Int),(↑(qB (tkN l ns 1) 2):Int),(↑(qB (tkN l ns 1) 3):Int),(↑(qB (tkN l ns 2) 0):Int),(↑(qB (tkN l ns 2) 1):Int),(↑(qB (tkN l ns 2) 2):Int),(↑(qB (tkN l ns 2) 3):Int),(↑(qB (tkN l ns 3) 0):Int),(↑(qB (tkN l ns 3) 1):Int),(↑(qB (tkN l ns 3) 2):Int),(↑(qB (tkN l ns 3) 3):Int)] then(∀ M:Mem,(m+1)*8≤140737488355328∧m+1≤140737488355328)∧K [.rnd [0,0,1,0,1,1,1,1] M,.blk 2,.at [1,1,1,1,1]] (St.mk [(29,.v (qA (IntKind.wrap .i64 ((↑k:Int)+(1:Int))))),(28,.v (qA (↑rows.length:Int))),(27,.x 0 []),(8,.o 1),(5,.m 2),(3,.p 3 0)] [.ext b0 (.s false 1 rows.length (cT rows)),.rowc 3 1 (m+1) (.app m (.fn (cI os)) (.lit 1 [.v (qA (↑k:Int))])),.mp true [IntKind.u64,IntKind.u64,IntKind.u64,IntKind.u64,IntKind.u64,IntKind.u64,IntKind.u64,IntKind.u64,IntKind.u64,IntKind.u64,IntKind.u64,IntKind.u64,IntKind.u64,IntKind.u64,IntKind.u64,IntKind.u64] kl Mc.unit,.cells [.x 4 [],.x 5 []] 76,.ext b1 (.s false 1 ins.length (cI ins)),.ext b2 (.s false 1 tabs.length (cI tabs))]) else K [.rnd [0,0,1,0,1,1,1,1] M,.blk 2,.at [1,1,1,1,1]] (St.mk [(29,.v (qA (IntKind.wrap .i64 ((↑k:Int)+(1:Int))))),(28,.v (qA (↑rows.length:Int))),(27,.x 0 []),(8,.o 1),(5,.m 2),(3,.p 3 0)] [.ext b0 (.s false 1 rows.length (cT rows)),.rowc 3 1 m (.fn (cI os)),.mp true [IntKind.u64,IntKind.u64,IntKind.u64,IntKind.u64,IntKind.u64,IntKind.u64,IntKind.u64,IntKind.u64,IntKind.u64,IntKind.u64,IntKind.u64,IntKind.u64,IntKind.u64,IntKind.u64,IntKind.u64,IntKind.u64] kl Mc.unit,.cells [.x 4 [],.x 5 []] 76,.ext b1 (.s false 1 ins.length (cI ins)),.ext b2 (.s false 1 tabs.length (cI tabs))]) else R (.o 0) [.rowc 3 1 m (.fn (cI os))]):=by kernel_rfl
theorem qIa(b0 b1 b2:Bool)(rows:List (List Nat))(ins tabs:List Int)(hr:rows.length≤4000000000000)(hi:ins.length≤4)(ht:tabs.length≤4)(hg:∀ r∈rows,(∀ g∈ins,0≤g∧g<(r.length:Int))∧∀ g∈tabs,0≤g∧g<(r.length:Int))(Q:SV→List HO→Prop)(hq:Q (.o 0) [.rowc 3 1 (xX rows ins tabs).length (.fn (cI (xX rows ins tabs)))]):∀(d k:Nat) (os:List Int),k+d=rows.length→os.length≤k→xX rows ins tabs=os++qFm (qEh rows tabs) ins (k:Int) (rows.drop k) →
  FOk Tryz.prog Tryz.f61 Q (.rnd [0,0,1,0,1,1,1,1] (d+1)::[.blk 2,.at [1,1,1,1,1]]) ⟨[(29,.v (.int .i64 (k:Int))),(28,.v (.int .i64 (rows.length:Int))),(27,.x 0 []),(8,.o 1),(5,.m 2),(3,.p 3 0)],[.ext b0 (.s false 1 rows.length (cT rows)),.rowc 3 1 os.length (.fn (cI os)),.mp true [.u64,.u64,.u64,.u64,.u64,.u64,.u64,.u64,.u64,.u64,.u64,.u64,.u64,.u64,.u64,.u64] (qEh rows tabs) .unit,.cells [.x 4 [],.x 5 []] 76,.ext b1 (.s false 1 ins.length (cI ins)),.ext b2 (.s false 1 tabs.length (cI tabs))]⟩
 | 0,k,os,hd,hl,he=>by
  refine FOk.rnd (qD hm 60 ((zSm b0 b1 b2 rows ins tabs (qEh rows tabs) os os.length k 0 _ _).mpr ⟨?_⟩))
  rw[qF,if_neg (by omega)]
  rw[show k=rows.length by omega,List.drop_length,qFm,List.append_nil] at he
  rw[he] at hq
  exact hq
 | d+1,k,os,hd,hl,he=>by
  have hk:k<rows.length:=by omega
  have hgk:=hg _ (qBd hk)
  refine FOk.rnd (qD hm 60 ((zSm b0 b1 b2 rows ins tabs (qEh rows tabs) os os.length k (d+1) _ _).mpr ⟨?_⟩))
  rw[qF,if_pos (by omega),qL _ (by omega)]
  rw[qYz hk,qFm,show(k:Int)+1=((k+1:Nat):Int) by omega] at he
  refine aI (aI (aI (zCy _ _ hi hgk.1 (And.intro (fun _=>by omega) ?_))))
  show bif !xJ (qEh rows tabs) (tK (gT rows k) ins) then _ else _
  rw[qN]
  refine qM (fun h=>?_) (fun h=>?_)
  ·rw[h] at he
   exact qIa b0 b1 b2 rows ins tabs hr hi ht hg Q hq d (k+1) os (by omega) (by omega) he
  ·rw[h,cond_false,← List.append_assoc] at he
   have next:=qIa b0 b1 b2 rows ins tabs hr hi ht hg Q hq d (k+1) (os++[(k:Int)]) (by omega) (by simp; omega) he
   rw[List.length_append,List.length_singleton] at next
   exact aI (FOk.cv next ⟨HE.refl _,⟨rfl,rfl,rfl,qGv _ rfl⟩,HE.refl _,HE.refl _,HE.refl _,HE.refl _,trivial⟩)
theorem qPk(b0 b1 b2:Bool)(rows:List (List Nat))(ins tabs:List Int)(hr:rows.length≤4000000000000)(hi:ins.length≤4)(ht:tabs.length≤4)(hg:∀ r∈rows,(∀ g∈ins,0≤g∧g<(r.length:Int))∧∀ g∈tabs,0≤g∧g<(r.length:Int))(Q:SV→List HO→Prop)(hq:Q (.o 0) [.rowc 3 1 (xX rows ins tabs).length (.fn (cI (xX rows ins tabs)))]):∀(d k:Nat) (kl:List (List Int)),k+d=rows.length→kl=(rows.take k).foldl (fun ks r=>yF ks (tK r tabs)) [] →
  FOk Tryz.prog Tryz.f61 Q (.rnd [0,0,1,0,1,1] (d+1)::[.blk 0,.at [1,1,1]]) ⟨[(16,.v (.int .i64 (k:Int))),(15,.v (.int .i64 (rows.length:Int))),(14,.x 0 []),(5,.m 1),(3,.p 2 0),(0,.x 0 [])],[.ext b0 (.s false 1 rows.length (cT rows)),.mp true [.u64,.u64,.u64,.u64,.u64,.u64,.u64,.u64,.u64,.u64,.u64,.u64,.u64,.u64,.u64,.u64] kl .unit,.cells [.x 3 [],.x 4 []] 76,.ext b1 (.s false 1 ins.length (cI ins)),.ext b2 (.s false 1 tabs.length (cI tabs))]⟩
 | 0,k,kl,hd,he=>by
  refine FOk.rnd (qD hm 60 ((zTt b0 b1 b2 rows ins tabs kl k 0 _ _).mpr ⟨?_⟩))
  rw[qF,if_neg (by omega)]
  rw[show k=rows.length by omega,List.take_length] at he
  subst he
  exact FOk.loop (rows.length+1) (by kernel_rfl) (FOk.cv (qIa b0 b1 b2 rows ins tabs hr hi ht hg Q hq rows.length 0 [] (by omega) (Nat.le_refl _) rfl) ⟨HE.refl _,⟨rfl,rfl,rfl,fun k hk=>by simp at hk⟩,HE.refl _,HE.refl _,HE.refl _,HE.refl _,trivial⟩)
 | d+1,k,kl,hd,he=>by
  have hk:k<rows.length:=by omega
  have hgk:=hg _ (qBd hk)
  refine FOk.rnd (qD hm 60 ((zTt b0 b1 b2 rows ins tabs kl k (d+1) _ _).mpr ⟨?_⟩))
  rw[qF,if_pos (by omega),qL _ (by omega)]
  refine aI (aI (aI (zCy _ _ ht hgk.2 ?_)))
  exact qPk b0 b1 b2 rows ins tabs hr hi ht hg Q hq d (k+1) (yF kl (tK (gT rows k) tabs)) (by omega) (by rw[qQv hk,List.foldl_append,← he]; rfl)
theorem zUt:Tryz.f61.body.isSome=true:=by kernel_rfl
theorem zWb:Nat.ble [SV.x 0 [],.agg [.x 1 [],.x 2 []]].length Tryz.f61.ntmps=true:=by kernel_rfl
theorem zNj(b0 b1 b2:Bool)(rows:List (List Nat))(ins tabs:List Int)(hr:rows.length≤4000000000000)(hi:ins.length≤4)(ht:tabs.length≤4)(hg:∀ r∈rows,(∀ g∈ins,0≤g∧g<(r.length:Int))∧∀ g∈tabs,0≤g∧g<(r.length:Int))(Q:SV→List HO→Prop)(hq:Q (.o 0) [.rowc 3 1 (xX rows ins tabs).length (.fn (cI (xX rows ins tabs)))]):qI Tryz.prog 61 [.x 0 [],.agg [.x 1 [],.x 2 []]] [.ext b0 (.s false 1 rows.length (cT rows)),.ext b1 (.s false 1 ins.length (cI ins)),.ext b2 (.s false 1 tabs.length (cI tabs))] Q:=by
 refine qJ Tryz.func61 zUt ?_ ?_
 ·exact zWb
 refine qD hm 60 ((zXp b0 b1 b2 rows ins tabs _ _).mpr ⟨?_⟩)
 exact FOk.loop (rows.length+1) (by kernel_rfl) (qPk b0 b1 b2 rows ins tabs hr hi ht hg Q hq rows.length 0 [] (by omega) rfl)
noncomputable def zLu:List SV→List HO→Option ((SV→List HO→Prop)→Prop)
 | [.x 0 [],.agg [.x 1 [],.x 2 []]],[.ext _ (.s false 1 nr cr),.ext _ (.s false 1 ni ci),.ext _ (.s false 1 nt ct)]=>some fun Q=>lLo nr ni nt cr ci ct fun rows ins tabs=>Q (.o 0) [.rowc 3 1 (xX rows ins tabs).length (.fn (cI (xX rows ins tabs)))]
 | _,_=>none
theorem zHs(args:List SV)(h:List HO)(tr:(SV→List HO→Prop)→Prop)(Q:SV→List HO→Prop)(hc:zLu args h=some tr)(ht:tr Q):qI Tryz.prog 61 args h Q:=by
 unfold zLu at hc
 split at hc
 ·simp only[sI] at hc
  subst hc
  obtain⟨rows,ins,tabs,⟨rfl,e0⟩,⟨rfl,e1⟩,⟨rfl,e2⟩,hr,hi,h4,hg,hq⟩:=ht.h
  exact qI.ac (zNj _ _ _ rows ins tabs hr hi h4 hg Q hq) ⟨⟨rfl,rfl,rfl,rfl,e0⟩,⟨rfl,rfl,rfl,rfl,e1⟩,⟨rfl,rfl,rfl,rfl,e2⟩,trivial⟩
 ·cases hc
noncomputable def K78:Con Tryz.prog:=K77.add 61 zLu zHs
end Go.Proofs.YtlmjdcbhpffanaaGreat
/- A cell that may be copied: its value. -/
namespace Go.Pl
open Go.Sx
noncomputable def qDp(c:Cir)(s:Sht)(so x y:Int):Nat:=fAd so (atS s (gK c.eqs x.toNat).1 (gK c.eqs x.toNat).2 y) 0
end Go.Pl
namespace Go.Proofs.YtlmjdcbhpffanaaGreat
open Go.Sx Go.Pl
set_option linter.unusedVariables false
set_option maxRecDepth 100000
theorem zYj(c:Cir)(s:Sht)(so k:Int)(qs:List (Int×Int×Int))(x y:Int)(K:List It→St→Prop)(R:SV→List HO→Prop):W (xwp Tryz.prog X K78 [] 60 (qK Tryz.f62 [] []) [] [.at []] ⟨qR 0 [.x 0 [],.agg [.v (.int .i64 x),.v (.int .i64 y)]],[.ext true (.s true 14 1 (fun _ j=>qCi c s so k qs j))]⟩ K R)=W ((∀ M:Mem,0<1)∧(∀ M:Mem,0<1)∧(∀ M:Mem,0<1)∧(∀ M:Mem,0<1)∧(∀ M:Mem,0<1)∧(∀ M:Mem,(0:Int)≤x∧x<(↑c.7.length:Int))∧(∀ M:Mem,0<1)∧(∀ M:Mem,Int.toNat x<List.length c.7)∧(∀ M:Mem,0+2≤2)∧(∀ M:Mem,0<1)∧(∀ M:Mem,0<1)∧(∀ M:Mem,0<1)∧(∀ M:Mem,0<1)∧(∀ M:Mem,0<1)∧(∀ M:Mem,0<1)∧(∀ M:Mem,0<1)∧(∀ M:Mem,0<1)∧(∀ M:Mem,0<1)∧(∀ M:Mem,0<1)∧lS s.1.length s.2.length s.3.length s.4.length (cT s.1) (cT s.2) (cT s.3) (cP s.4) fun(s:Sht)=>c2C (eI (atS s (gK c.7 (Int.toNat x)).1 (gK c.7 (Int.toNat x)).2 y)) [(0:Int),(0:Int),(0:Int),(0:Int)] fun(a b:Nat)=>(∀ M:Mem,0+4≤4)∧R ((eS (fAd so a b))) []):=by kernel_rfl
theorem zWu:Tryz.f62.body.isSome=true:=by kernel_rfl
theorem zVg(x y:Int):Nat.ble [SV.x 0 [],.agg [.v (.int .i64 x),.v (.int .i64 y)]].length Tryz.f62.ntmps=true:=by kernel_rfl
theorem zLc(c:Cir)(hc:c.ok)(s:Sht)(hs:s.ok)(so k:Int)(qs:List (Int×Int×Int))(x y:Int)(hx:0≤x∧x<(c.eqs.length:Int))(Q:SV→List HO→Prop)(hq:Q (eS (qDp c s so x y)) []):qI Tryz.prog 62 [.x 0 [],.agg [.v (.int .i64 x),.v (.int .i64 y)]] [.ext true (.s true 14 1 (fun _ j=>qCi c s so k qs j))] Q:=by
 refine qJ Tryz.func62 zWu ?_ ?_
 ·exact zVg x y
 refine qD hm 60 ((zYj c s so k qs x y _ _).mpr ⟨?_⟩)
 refine aI (aI (aI (aI (aI (aI (aI (aI (aI (aI (aI (aI (aI (aI (aI (aI (aI (aI (aI (qIy s hs ⟨⟨_,0,rfl,qAk.symm,qRe hs _ _ _,by simp only[top]; omega,And.intro (fun _=>by omega) hq⟩⟩)))))))))))))))))))
noncomputable def zOv:List SV→List HO→Option ((SV→List HO→Prop)→Prop)
 | [.x 0 [],.agg [.v (.int .i64 x),.v (.int .i64 y)]],[.ext true (.s true 14 1 fk)]=>some fun Q=>lFk fk fun c s so k qs=>(0≤x∧x<(c.eqs.length:Int))∧Q (eS (qDp c s so x y)) []
 | _,_=>none
theorem zFj(args:List SV)(h:List HO)(tr:(SV→List HO→Prop)→Prop)(Q:SV→List HO→Prop)(hc:zOv args h=some tr)(ht:tr Q):qI Tryz.prog 62 args h Q:=by
 unfold zOv at hc
 split at hc
 ·simp only[sI] at hc
  subst hc
  obtain⟨c,s,so,k,qs,e,hk,hs,h0,h4,hx,hq⟩:=ht.h
  exact qI.ac (zLc c hk s hs so k qs _ _ hx Q hq) ⟨⟨rfl,rfl,rfl,rfl,e⟩,trivial⟩
 ·cases hc
noncomputable def K79:Con Tryz.prog:=K78.add 62 zOv zFj
end Go.Proofs.YtlmjdcbhpffanaaGreat
/- Right circuits: what follows (plain). -/
namespace Go.Pl
open Go.Sx
theorem qCt{c:Cir}(h:zY c=0):c.nodes.length≤64∧c.gates.length≤16∧c.looks.length≤4∧c.eqs.length≤8:=by
 obtain⟨h0,hg⟩:=xV h
 have h1:qFs c:=of_decide_eq_true (qEx hg).1
 refine⟨?_,h1.2.2.2.2⟩
 rw[wN] at h0
 split at h0
 ·cases h0
 ·rename_i hn
  exact Nat.le_of_not_lt fun hh=>hn (.inl hh)
end Go.Pl
namespace Go.Pl
open Go.Sx
end Go.Pl
namespace Go.Pl
open Go.Sx
end Go.Pl
namespace Go.Pl
open Go.Sx
theorem qEs:∀(l:List Nd) (out:List (Int×Int×Int)) (q:Int×Int×Int),q∈qsN out l↔q∈out∨∃ n∈l,(2≤n.op∧n.op≤4)∧q=(n.op,n.a,n.b)
 | [],out,q=>by
  rw[qsN]
  exact⟨.inl,fun h=>h.elim id (fun⟨n,hn,_⟩=>by cases hn)⟩
 | x::r,out,q=>by
  by_cases h1:2≤x.op∧x.op≤4
  ·by_cases h2:(x.op,x.a,x.b)∈out
   ·rw[qKc out r h2,qEs r]
    constructor
    ·rintro(h | ⟨n,hn,h⟩)
     ·exact .inl h
     ·exact .inr ⟨n,List.mem_cons_of_mem _ hn,h⟩
    ·rintro(h | ⟨n,hn,h,e⟩)
     ·exact .inl h
     ·rcases List.mem_cons.1 hn with rfl | hn
      ·exact .inl (e ▸ h2)
      ·exact .inr ⟨n,hn,h,e⟩
   ·rw[qJu out r h1 h2,qEs r]
    constructor
    ·rintro(h | ⟨n,hn,h⟩)
     ·rcases List.mem_append.1 h with h | h
      ·exact .inl h
      ·exact .inr ⟨x,List.mem_cons_self,h1,List.mem_singleton.1 h⟩
     ·exact .inr ⟨n,List.mem_cons_of_mem _ hn,h⟩
    ·rintro(h | ⟨n,hn,h,e⟩)
     ·exact .inl (List.mem_append_left _ h)
     ·rcases List.mem_cons.1 hn with rfl | hn
      ·exact .inl (List.mem_append_right _ (List.mem_singleton.2 e))
      ·exact .inr ⟨n,hn,h,e⟩
  ·rw[qXi out r h1,qEs r]
   constructor
   ·rintro(h | ⟨n,hn,h⟩)
    ·exact .inl h
    ·exact .inr ⟨n,List.mem_cons_of_mem _ hn,h⟩
   ·rintro(h | ⟨n,hn,h,e⟩)
    ·exact .inl h
    ·rcases List.mem_cons.1 hn with rfl | hn
     ·exact absurd h h1
     ·exact .inr ⟨n,hn,h,e⟩
theorem zGo{c:Cir}(h:zY c=0){n:Nd}(hn:n∈c.nodes)(h1:2≤n.op)(h2:n.op≤4): -3≤n.b∧n.b≤3:=by
 obtain⟨h0,_⟩:=xV h
 rw[wN] at h0
 split at h0
 ·cases h0
 ·rename_i hno
  refine Classical.byContradiction fun hb=>hno (.inr (.inr (List.any_eq_true.2 ⟨n,hn,?_⟩)))
  rw[qBy,qMp,decide_eq_true ⟨h1,h2⟩,Bool.true_and]
  exact decide_eq_true (by omega)
theorem zDy{B:Int}:∀(l:List (Int×Int×Int)) (m:Int),(∀ q∈l,-3≤q.2.2∧q.2.2≤3)→(l.foldl frQ m≤B↔m≤B∧∀ q∈l,-q.2.2≤B)
 | [],m,_=>by simp
 | x::r,m,h=>by
  have hx:=h x List.mem_cons_self
  rw[List.foldl_cons,zDy r _ fun q hq=>h q (List.mem_cons_of_mem _ hq),List.forall_mem_cons,frQ,jB _ (by omega)]
  constructor
  ·rintro⟨h1,h2⟩
   split at h1
   ·exact⟨by omega,by omega,h2⟩
   ·exact⟨h1,by omega,h2⟩
  ·rintro⟨h1,h2,h3⟩
   refine⟨?_,h3⟩
   split
   ·omega
   ·exact h1
theorem zBk{B k:Int}(hk:0≤usN k∧usN k≤2000):∀(l:List (Int×Int×Int)) (m:Int),(∀ q∈l,-3≤q.2.2∧q.2.2≤3)→(B<l.foldl (toQ k) m↔B<m∧∀ q∈l,B<usN k-q.2.2)
 | [],m,_=>by simp
 | x::r,m,h=>by
  have hx:=h x List.mem_cons_self
  rw[List.foldl_cons,zBk hk r _ fun q hq=>h q (List.mem_cons_of_mem _ hq),List.forall_mem_cons,toQ,jB _ (by omega)]
  constructor
  ·rintro⟨h1,h2⟩
   split at h1
   ·exact⟨by omega,h1,h2⟩
   ·exact⟨h1,by omega,h2⟩
  ·rintro⟨h1,h2,h3⟩
   refine⟨?_,h3⟩
   split
   ·exact h2
   ·exact h1
theorem zBa{c:Cir}{x:Int}{p:Int→Prop}:(∀ q∈zS c x,p q.2.2)↔∀ g∈zG c.nodes x,(2≤(gN c.nodes g.toNat).op∧(gN c.nodes g.toNat).op≤4)→p (gN c.nodes g.toNat).b:=by
 constructor
 ·intro h g hg ho
  refine h ((gN c.nodes g.toNat).op,(gN c.nodes g.toNat).a,(gN c.nodes g.toNat).b) ((qEs _ _ _).2 (.inr ⟨_,?_,ho,rfl⟩))
  exact List.mem_map.2 ⟨g,hg,rfl⟩
 ·intro h q hq
  rcases(qEs _ _ _).1 hq with hq | ⟨n,hn,ho,rfl⟩
  ·cases hq
  ·obtain⟨g,hg,rfl⟩:=List.mem_map.1 hn
   exact h g hg ho
theorem zHi{c:Cir}{x g:Int}(h:g∈zG c.nodes x):gN c.nodes g.toNat∈c.nodes:=by
 have:=qKw c.nodes x g h
 rw[gN,List.getD_eq_getElem?_getD,List.getElem?_eq_getElem (by omega)]
 exact List.getElem_mem (by omega)
theorem zAv{c:Cir}(h:zY c=0)(x:Int):∀ q∈zS c x,-3≤q.2.2∧q.2.2≤3 :=
 (zBa (p:=fun z => -3≤z∧z≤3)).2 fun _ hg ho=>zGo h (zHi hg) ho.1 ho.2
theorem zGi{k:Int}(h:k≤10):0≤usN k∧usN k≤1020:=by
 rw[usN]
 split
 ·omega
 ·rename_i h2
  have:k=2∨k=3∨k=4∨k=5∨k=6∨k=7∨k=8∨k=9∨k=10:=by omega
  rcases this with rfl | rfl | rfl | rfl | rfl | rfl | rfl | rfl | rfl <;> decide
theorem qKz{c:Cir}(h:zY c=0){k x:Int}(hk:k≤10):0≤(jG c k x).1∧(jG c k x).2≤usN k:=by
 have hu:=zGi hk
 have hr:=zAv h x
 rw[jG]
 split
 ·rw[qIs]
  split
  ·exact⟨Int.le_refl 0,hu.1⟩
  ·refine⟨((zDy _ 0 hr).1 (Int.le_refl _)).1,?_⟩
   refine Int.not_lt.1 fun hh=>?_
   have:=((zBk ⟨hu.1,by omega⟩ _ _ hr).1 hh).1
   omega
 ·exact⟨Int.le_refl 0,hu.1⟩
end Go.Pl
/- All faults: plain. -/
namespace Go.Pl
open Go.Sx
noncomputable def qBx(rows:List (List Nat))(g i:Int):Nat→Int→List (Int×Int×Int)
 | 0,_=>[]
 | d+1,r=>(bif decide (eI (gE (gT rows r.toNat) g.toNat)=[(0:Int),(0:Int),(0:Int),(0:Int)]) then[] else[((1:Int),i,r)])++qBx rows g i d (r+1)
noncomputable def wD(c:Cir)(k:Int)(rows:List (List Nat)):Int→List Int→List (Int×Int×Int)
 | i,g::t=>qBx rows g i ((jG c k g).2-(jG c k g).1).toNat (jG c k g).1++wD c k rows (i+1) t
 | _,[]=>[]
noncomputable def wM(rows:List (List Nat)):Int→List (List Int×List Int)→List (Int×Int×Int)
 | i,l::t=>(xX rows l.1 l.2).map (fun r=>((2:Int),i,r))++wM rows (i+1) t
 | _,[]=>[]
noncomputable def qFh(c:Cir)(s:Sht)(so:Int):Int→List (Int×Int×Int×Int)→List (Int×Int×Int)
 | i,x::t=>(bif decide (eI (qDp c s so x.1 x.2.1)=eI (qDp c s so x.2.2.1 x.2.2.2)) then[] else[((3:Int),i,(0:Int))])++qFh c s so (i+1) t
 | _,[]=>[]
noncomputable def qAd(c:Cir)(s:Sht)(so k:Int)(n:Nat):List (List Nat):=(List.range n).map fun(r:Nat)=>zT c s so k (qsN [] c.nodes) (r:Int)
noncomputable def qJp(c:Cir)(s:Sht)(so k:Int):List (Int×Int×Int):=wD c k (qAd c s so k (usN k).toNat) 0 c.gates++(wM (qAd c s so k (usN k).toNat) 0 c.looks++qFh c s so 0 s.cp)
noncomputable def zU(c:Cir)(s:Sht)(so k:Int):List (Int×Int×Int)×Int:=if fE so≠0 then([],fE so) else if xK c k s≠0 then([],xK c k s) else(qJp c s so k,0)
theorem qOy(rows:List (List Nat))(g i:Int):∀(d:Nat) (r:Int),(qBx rows g i d r).length≤d
 | 0,_=>Nat.le_refl _
 | d+1,r=>by
  have:=qOy rows g i d (r+1)
  rw[qBx,List.length_append]
  cases decide (eI (gE (gT rows r.toNat) g.toNat)=[(0:Int),(0:Int),(0:Int),(0:Int)]) <;> simp <;> omega
theorem qLm{c:Cir}{k:Int}{rows:List (List Nat)}{B:Nat}(h:∀ g,((jG c k g).2-(jG c k g).1).toNat≤B):∀(l:List Int) (i:Int),(wD c k rows i l).length≤l.length*B
 | [],_=>by simp [wD]
 | g::t,i=>by
  have h1:=qOy rows g i ((jG c k g).2-(jG c k g).1).toNat (jG c k g).1
  have h2:=qLm (rows:=rows) h t (i+1)
  have h3:=h g
  rw[wD,List.length_append,List.length_cons,Nat.add_mul]; omega
theorem qLh(rows:List (List Nat)):∀(l:List (List Int×List Int)) (i:Int),(wM rows i l).length≤l.length*rows.length
 | [],_=>by simp [wM]
 | x::t,i=>by
  have h1:=qIn (qEh rows x.2) x.1 rows 0
  have h2:=qLh rows t (i+1)
  rw[wM,List.length_append,List.length_map,List.length_cons,Nat.add_mul]
  show(xX rows x.1 x.2).length+_≤_
  rw[xX]; omega
theorem qSu(c:Cir)(s:Sht)(so:Int):∀(l:List (Int×Int×Int×Int)) (i:Int),(qFh c s so i l).length≤l.length
 | [],_=>Nat.le_refl _
 | x::t,i=>by
  have h2:=qSu c s so t (i+1)
  rw[qFh,List.length_append,List.length_cons]
  cases decide (eI (qDp c s so x.1 x.2.1)=eI (qDp c s so x.2.2.1 x.2.2.2)) <;> simp <;> omega
theorem qMj{k:Int}(h:k≤5):0≤usN k∧usN k≤28:=by
 rw[usN]
 split
 ·omega
 ·have:k=2∨k=3∨k=4∨k=5:=by omega
  rcases this with rfl | rfl | rfl | rfl <;> decide
theorem qMi{c:Cir}{s:Sht}{so k:Int}(h:zY c=0)(hk:k≤5)(hp:s.cp.length≤256):(qJp c s so k).length≤100000:=by
 have hl:=qCt h
 have hu:=qMj hk
 have h1:=qLm (c:=c) (k:=k) (rows:=qAd c s so k (usN k).toNat) (B:=28) (fun g=>by
  have:=qKz (x:=g) h (show k≤10 by omega)
  omega) c.gates 0
 have h2:=qLh (qAd c s so k (usN k).toNat) c.looks 0
 have h3:=qSu c s so s.cp 0
 have h4:(qAd c s so k (usN k).toNat).length≤28:=by rw[qAd,List.length_map,List.length_range]; omega
 have h5:c.looks.length*(qAd c s so k (usN k).toNat).length≤4*28:=Nat.mul_le_mul (by omega) h4
 rw[qJp,List.length_append,List.length_append]; omega
theorem qWy{l:List (Int×Int×Int×Int)}{k:Nat}(h:k<l.length):gP l k∈l:=by
 rw[gP,List.getD_eq_getElem?_getD,List.getElem?_eq_getElem h]
 exact List.getElem_mem h
theorem qZn{l:List (List Int×List Int)}{k:Nat}(h:k<l.length):l.drop k=gL l k::l.drop (k+1):=by
 rw[List.drop_eq_getElem_cons h,gL,List.getD_eq_getElem?_getD,List.getElem?_eq_getElem h]; rfl
theorem qVf{c:Cir}(h:zY c=0)(s:Sht){so:Int}(hs:fE so=0)(k r:Int):(zT c s so k (qsN [] c.nodes) r).length=c.nodes.length:=by
 obtain⟨h0,_⟩:=xV h
 obtain⟨out,_,h1,h2⟩:=zFg ((qBm so).1 hs) (qHu h0).2 (show(atQ s k r (qsN [] c.nodes)).length=(qsN [] c.nodes).length by rw[atQ,List.length_map]) (qPq c.nodes [])
 rw[zT,h1]; exact h2
theorem qPe{c:Cir}(h:zY c=0)(s:Sht){so:Int}(hs:fE so=0){k:Int}{n:Nat}:∀ r∈qAd c s so k n,r.length=c.nodes.length:=by
 intro r hr
 obtain⟨i,_,rfl⟩:=List.mem_map.1 hr
 exact qVf h s hs k _
theorem qGw{c:Cir}(s:Sht){so k:Int}{n:Nat}:(qAd c s so k n).length=n:=by rw[qAd,List.length_map,List.length_range]
theorem qLd(c:Cir)(s:Sht)(so k:Int)(i:Nat):qAd c s so k (i+1)=qAd c s so k i++[zT c s so k (qsN [] c.nodes) (i:Int)]:=by
 rw[qAd,List.range_succ,List.map_append]; rfl
theorem qTb{c:Cir}(h:zY c=0):∀ g∈c.gates,0≤g∧g<(c.nodes.length:Int):=by
 obtain⟨_,hg⟩:=xV h
 intro g hg2
 exact of_decide_eq_true (qBq (qEx hg).2.1 g hg2)
theorem qTi{c:Cir}(h:zY c=0):∀ l∈c.looks,l.1.length≤4∧l.2.length≤4∧(∀ g∈l.1,0≤g∧g<(c.nodes.length:Int))∧∀ g∈l.2,0≤g∧g<(c.nodes.length:Int):=by
 obtain⟨_,hg⟩:=xV h
 intro l hl
 obtain⟨h1,h2,h3,h4,h5⟩:=qBn (qBq (qEx hg).2.2.1 l hl)
 have fl:∀ g,jI c g=true→0≤g∧g<(c.nodes.length:Int):=fun g hh=>by
  rw[jI,Bool.and_eq_true] at hh
  exact of_decide_eq_true hh.1
 exact⟨h4,by omega,fun g hh=>fl g (h1 g hh),fun g hh=>fl g (h2 g hh)⟩
theorem qWj{c:Cir}{k:Int}{s:Sht}(h:xK c k s=0):s.cp.length≤256∧∀ x∈s.cp,(0≤x.1∧x.1<(c.eqs.length:Int))∧(0≤x.2.2.1∧x.2.2.1<(c.eqs.length:Int)):=by
 have hw:=(wK h).2.2.2.2.2.2
 rw[wrP,Bool.or_eq_false_iff,decide_eq_false_iff_not,List.any_eq_false] at hw
 refine⟨by omega,fun x hx=>?_⟩
 have:=hw.2 x hx
 rw[qJj,qCm,qCm,Bool.or_eq_true,decide_eq_true_eq,decide_eq_true_eq] at this
 omega
end Go.Pl
namespace Go.Proofs.YtlmjdcbhpffanaaGreat
open Go.Sx Go.Pl
set_option linter.unusedVariables false
set_option maxRecDepth 100000
end Go.Proofs.YtlmjdcbhpffanaaGreat
