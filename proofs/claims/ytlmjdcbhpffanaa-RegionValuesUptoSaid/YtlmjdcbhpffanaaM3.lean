/- The texts Z51 .. Z123p of this proof, one behind the other. -/
import Derived.Test.YtlmjdcbhpffanaaM2
/- The checker: the degree. -/
namespace Go.Pl
open Go.Sx
def mxI(a b:Int):Int:=if a<b then b else a
def qPq(c:Cir):Int:=if 0<c.looks.length+c.eqs.length then 4 else 3
def qJk(c:Cir)(dg:List Int):Int:=c.looks.foldl (fun d l=>mxI d (2+gtN dg l.1+gtN dg l.2)) (mxI (qPq c) (gtN dg c.gates+1))
structure qJh (c : Cir) (dg : List Int) : Prop where
  g : ∀ g ∈ c.gates, 0 ≤ g ∧ g < (dg.length : Int)
  l : ∀ x ∈ c.looks, (∀ g ∈ x.1, 0 ≤ g ∧ g < (dg.length : Int)) ∧ ∀ g ∈ x.2, 0 ≤ g ∧ g < (dg.length : Int)
  d : ∀ y ∈ dg, 0 ≤ y ∧ y ≤ 1000
theorem zLz{dg:List Int}(h:∀ y∈dg,0≤y∧y≤1000)(k:Nat):0≤gI dg k∧gI dg k≤1000:=by
 by_cases hk:k<dg.length
 ·exact h _ (qXo hk)
 ·rw[gI,List.getD_eq_getElem?_getD,List.getElem?_eq_none (by omega)]
  exact⟨Int.le_refl _,by decide⟩
theorem qRa{dg:List Int}(h:∀ y∈dg,0≤y∧y≤1000)(l:List Int):0≤gtN dg l∧gtN dg l≤1000:=by
 have:∀(l:List Int) (m:Int),0≤m∧m≤1000→0≤l.foldl (fun m g=>if m<gI dg g.toNat then gI dg g.toNat else m) m∧l.foldl (fun m g=>if m<gI dg g.toNat then gI dg g.toNat else m) m≤1000:=by
  intro l
  induction l with
  | nil=>intro m hm; exact hm
  | cons g r ih =>
   intro m hm
   rw[List.foldl_cons]
   refine ih _ ?_
   split
   ·exact zLz h _
   ·exact hm
 exact this l 0 (by omega)
theorem qUe{α:Type}(f:α→List Int×List Int→α)(a:α){l:List (List Int×List Int)}{k:Nat}(h:k<l.length):(l.take (k+1)).foldl f a=f ((l.take k).foldl f a) (gL l k):=by
 rw[List.take_add_one,List.getElem?_eq_getElem h,List.foldl_append,gL,List.getD_eq_getElem?_getD,List.getElem?_eq_getElem h]; rfl
end Go.Pl
namespace Go.Proofs.Ytlmjdcbhpffanaa
open Go.Sx Go.Pl
set_option linter.unusedVariables false
set_option maxRecDepth 100000
theorem zSt(b0 b1 b4:Bool)(c:Cir)(dg:List Int)(m:Int)(k M:Nat)(K:List It→St→Prop)(R:SV→List HO→Prop):W (xwp Try.prog X K50 [] 60 (qO Try.f86 [] [⟨[0,1,0,1,1,1,1],[28,27,26,3,1],[]⟩]) [] (.at [0,0,1,0,1,1,1,1]::.rnd [0,0,1,0,1,1,1,1] M::[.blk 0,.at [1,1,1,1,1]]) ⟨[(28,.v (.int .i64 (k:Int))),(27,.v (.int .i64 (c.looks.length:Int))),(26,.x 0 []),(3,.v (.int .i64 m)),(1,.p 1 0)],[.ext false (.s false 2 c.looks.length (cL c.looks)),.cells [.v (.int .i64 c.fx),.v (.int .i64 c.ad),.v (.int .i64 c.ins),.x 2 [],.x 3 [],.x 0 [],.x 4 [],.x 5 []] 160,.ext b0 (.s false 7 c.nodes.length (cN c.nodes)),.ext b1 (.s false 1 c.gates.length (cI c.gates)),.ext false (.s false 2 c.eqs.length (cK c.eqs)),.ext b4 (.s false 1 dg.length (cI dg))]⟩ K R)=W (bif decide ((↑k:Int)<(↑c.6.length:Int)) then(∀ M:Mem,(0:Int)≤(↑k:Int)∧(↑k:Int)<(↑c.6.length:Int))∧(∀ M:Mem,k<List.length c.6)∧(∀ M:Mem,0+2≤2)∧(∀ M:Mem,k<List.length c.6)∧lH c.1 c.2 c.3 c.4.length c.5.length c.6.length c.7.length dg.length (cN c.4) (cI c.5) (cL c.6) (cK c.7) (cI dg) fun(c_1:Cir) (dg_1:List Int)=>lG dg_1.length (List.length (gL c.6 k).1) (cI (gL c.6 k).1) fun(l:List Int)=>(∀ M:Mem,k<List.length c.6)∧lH c.1 c.2 c.3 c.4.length c.5.length c.6.length c.7.length dg.length (cN c.4) (cI c.5) (cL c.6) (cK c.7) (cI dg) fun(c_2:Cir) (dg_2:List Int)=>lG dg_2.length (List.length (gL c.6 k).2) (cI (gL c.6 k).2) fun(l_1:List Int)=>K [.rnd [0,0,1,0,1,1,1,1] M,.blk 0,.at [1,1,1,1,1]] (St.mk [(28,.v (qA (IntKind.wrap .i64 ((↑k:Int)+(1:Int))))),(27,.v (qA (↑c.6.length:Int))),(26,.x 0 []),(3,.v (qA (if m<IntKind.wrap .i64 (IntKind.wrap .i64 ((2:Int)+gtN dg_1 l)+gtN dg_2 l_1) then IntKind.wrap .i64 (IntKind.wrap .i64 ((2:Int)+gtN dg_1 l)+gtN dg_2 l_1) else m))),(1,.p 1 0)] [.ext false (.s false 2 c.6.length (cL c.6)),.cells [.v (qA c.1),.v (qA c.2),.v (qA c.3),.x 2 [],.x 3 [],.x 0 [],.x 4 [],.x 5 []] 160,.ext b0 (.s false 7 c.4.length (cN c.4)),.ext b1 (.s false 1 c.5.length (cI c.5)),.ext false (.s false 2 c.7.length (cK c.7)),.ext b4 (.s false 1 dg.length (cI dg))]) else R (.v (qA m)) []):=by kernel_rfl
theorem zZu(b0 b1 b4:Bool)(c:Cir)(dg:List Int)(K:List It→St→Prop)(R:SV→List HO→Prop):W (xwp Try.prog X K50 [] 60 (qO Try.f86 [] [⟨[0,1,0,1,1,1,1],[28,27,26,3,1],[]⟩]) [] [.at []] ⟨qQ 0 [.agg [.v (.int .i64 c.fx),.v (.int .i64 c.ad),.v (.int .i64 c.ins),.x 0 [],.x 1 [],.x 2 [],.x 3 [],.x 4 []]],[.ext b0 (.s false 7 c.nodes.length (cN c.nodes)),.ext b1 (.s false 1 c.gates.length (cI c.gates)),.ext false (.s false 2 c.looks.length (cL c.looks)),.ext false (.s false 2 c.eqs.length (cK c.eqs)),.ext b4 (.s false 1 dg.length (cI dg))]⟩ K R)=W (bif decide ((0:Int)<IntKind.wrap .i64 ((↑c.6.length:Int)+(↑c.7.length:Int))) then lH c.1 c.2 c.3 c.4.length c.5.length c.6.length c.7.length dg.length (cN c.4) (cI c.5) (cL c.6) (cK c.7) (cI dg) fun(c_1:Cir) (dg_1:List Int)=>lG dg_1.length c.5.length (cI c.5) fun(l:List Int)=>K [.at [0,1,0,1,1,1,1],.blk 0,.at [1,1,1,1,1]] (St.mk [(28,.v (qA 0)),(27,.v (qA (↑c.6.length:Int))),(26,.x 0 []),(3,.v (qA (if(4:Int)<IntKind.wrap .i64 (gtN dg_1 l+(1:Int)) then IntKind.wrap .i64 (gtN dg_1 l+(1:Int)) else(4:Int)))),(1,.p 1 0)] [.ext false (.s false 2 c.6.length (cL c.6)),.cells [.v (qA c.1),.v (qA c.2),.v (qA c.3),.x 2 [],.x 3 [],.x 0 [],.x 4 [],.x 5 []] 160,.ext b0 (.s false 7 c.4.length (cN c.4)),.ext b1 (.s false 1 c.5.length (cI c.5)),.ext false (.s false 2 c.7.length (cK c.7)),.ext b4 (.s false 1 dg.length (cI dg))]) else lH c.1 c.2 c.3 c.4.length c.5.length c.6.length c.7.length dg.length (cN c.4) (cI c.5) (cL c.6) (cK c.7) (cI dg) fun(c_1:Cir) (dg_1:List Int)=>lG dg_1.length c.5.length (cI c.5) fun(l:List Int)=>K [.at [0,1,0,1,1,1,1],.blk 0,.at [1,1,1,1,1]] (St.mk [(28,.v (qA 0)),(27,.v (qA (↑c.6.length:Int))),(26,.x 0 []),(3,.v (qA (if(3:Int)<IntKind.wrap .i64 (gtN dg_1 l+(1:Int)) then IntKind.wrap .i64 (gtN dg_1 l+(1:Int)) else(3:Int)))),(1,.p 1 0)] [.ext false (.s false 2 c.6.length (cL c.6)),.cells [.v (qA c.1),.v (qA c.2),.v (qA c.3),.x 2 [],.x 3 [],.x 0 [],.x 4 [],.x 5 []] 160,.ext b0 (.s false 7 c.4.length (cN c.4)),.ext b1 (.s false 1 c.5.length (cI c.5)),.ext false (.s false 2 c.7.length (cK c.7)),.ext b4 (.s false 1 dg.length (cI dg))])):=by kernel_rfl
theorem qKr(b0 b1 b4:Bool)(c:Cir)(dg:List Int)(hc:c.ok)(ho:qJh c dg)(Q:SV→List HO→Prop)(hq:Q (.v (.int .i64 (qJk c dg))) []):∀(d k:Nat) (m:Int),k+d=c.looks.length→m=(c.looks.take k).foldl (fun d l=>mxI d (2+gtN dg l.1+gtN dg l.2)) (mxI (qPq c) (gtN dg c.gates+1)) →
  FOk Try.prog Try.f86 Q (.rnd [0,0,1,0,1,1,1,1] (d+1)::[.blk 0,.at [1,1,1,1,1]]) ⟨[(28,.v (.int .i64 (k:Int))),(27,.v (.int .i64 (c.looks.length:Int))),(26,.x 0 []),(3,.v (.int .i64 m)),(1,.p 1 0)],[.ext false (.s false 2 c.looks.length (cL c.looks)),.cells [.v (.int .i64 c.fx),.v (.int .i64 c.ad),.v (.int .i64 c.ins),.x 2 [],.x 3 [],.x 0 [],.x 4 [],.x 5 []] 160,.ext b0 (.s false 7 c.nodes.length (cN c.nodes)),.ext b1 (.s false 1 c.gates.length (cI c.gates)),.ext false (.s false 2 c.eqs.length (cK c.eqs)),.ext b4 (.s false 1 dg.length (cI dg))]⟩
 | 0,k,m,hd,he=>by
  refine FOk.rnd (qE hm 60 ((zSt b0 b1 b4 c dg m k 0 _ _).mpr ⟨?_⟩))
  rw[qF,if_neg (by omega)]
  rw[show k=c.looks.length by omega,List.take_length] at he
  rw[he]
  exact hq
 | d+1,k,m,hd,he=>by
  have hk:k<c.looks.length:=by omega
  have h1:=hc.l.2
  obtain⟨⟨_,g1⟩,⟨_,g2⟩⟩:=hc.l.1 _ (qSe hk)
  obtain⟨o1,o2⟩:=ho.l _ (qSe hk)
  have t1:=qRa ho.d (gL c.looks k).1
  have t2:=qRa ho.d (gL c.looks k).2
  refine FOk.rnd (qE hm 60 ((zSt b0 b1 b4 c dg m k (d+1) _ _).mpr ⟨?_⟩))
  rw[qF,if_pos (by omega),qN _ (by omega)]
  refine aI (aI (aI (aI (qHw c dg hc ⟨⟨_,rfl,IsC.refl _ _ _,by omega,o1,And.intro (fun _=>hk) (qHw c dg hc ⟨⟨_,rfl,IsC.refl _ _ _,by omega,o2,?_⟩⟩)⟩⟩))))
  rw[jA (2+gtN dg (gL c.looks k).1) (by omega),jA (2+gtN dg (gL c.looks k).1+gtN dg (gL c.looks k).2) (by omega)]
  exact qKr b0 b1 b4 c dg hc ho Q hq d (k+1) _ (by omega) (by rw[qUe _ _ hk,← he]; rfl)
theorem zWz:Try.f86.body.isSome=true:=by kernel_rfl
theorem zZs(c:Cir):Nat.ble [(.agg [.v (.int .i64 c.fx),.v (.int .i64 c.ad),.v (.int .i64 c.ins),.x 0 [],.x 1 [],.x 2 [],.x 3 [],.x 4 []]:SV)].length Try.f86.ntmps=true:=by kernel_rfl
theorem zQt(b0 b1 b4:Bool)(c:Cir)(dg:List Int)(hc:c.ok)(ho:qJh c dg)(Q:SV→List HO→Prop)(hq:Q (.v (.int .i64 (qJk c dg))) []):qI Try.prog 86 [.agg [.v (.int .i64 c.fx),.v (.int .i64 c.ad),.v (.int .i64 c.ins),.x 0 [],.x 1 [],.x 2 [],.x 3 [],.x 4 []]] [.ext b0 (.s false 7 c.nodes.length (cN c.nodes)),.ext b1 (.s false 1 c.gates.length (cI c.gates)),.ext false (.s false 2 c.looks.length (cL c.looks)),.ext false (.s false 2 c.eqs.length (cK c.eqs)),.ext b4 (.s false 1 dg.length (cI dg))] Q:=by
 refine qJ Try.func86 zWz ?_ ?_
 ·exact zZs c
 have h1:=hc.e.2
 have h2:=hc.l.2
 have h3:=hc.g.2
 have t:=qRa ho.d c.gates
 refine qE hm 60 ((zZu b0 b1 b4 c dg _ _).mpr ⟨?_⟩)
 rw[qF,jA ((c.looks.length:Int)+(c.eqs.length:Int)) (by omega)]
 refine qH (fun h=>?_) (fun h=>?_)
 ·refine qHw c dg hc ⟨⟨_,rfl,IsC.refl _ _ _,by omega,ho.g,?_⟩⟩
  rw[jA (gtN dg c.gates+1) (by omega)]
  exact FOk.loop (c.looks.length+1) (by kernel_rfl) (qKr b0 b1 b4 c dg hc ho Q hq c.looks.length 0 _ (by omega) (by rw[show qPq c=4 by rw[qPq,if_pos (by omega)]]; rfl))
 ·refine qHw c dg hc ⟨⟨_,rfl,IsC.refl _ _ _,by omega,ho.g,?_⟩⟩
  rw[jA (gtN dg c.gates+1) (by omega)]
  exact FOk.loop (c.looks.length+1) (by kernel_rfl) (qKr b0 b1 b4 c dg hc ho Q hq c.looks.length 0 _ (by omega) (by rw[show qPq c=3 by rw[qPq,if_neg (by omega)]]; rfl))
noncomputable def zOu:List SV→List HO→Option ((SV→List HO→Prop)→Prop)
 | [.agg [.v (.int .i64 fx),.v (.int .i64 ad),.v (.int .i64 ins),.x 0 [],.x 1 [],.x 2 [],.x 3 [],.x 4 []]],[.ext _ (.s false 7 n0 c0),.ext _ (.s false 1 n1 c1),.ext false (.s false 2 n2 c2),.ext false (.s false 2 n3 c3),.ext _ (.s false 1 n4 c4)]=>some fun Q=>lH fx ad ins n0 n1 n2 n3 n4 c0 c1 c2 c3 c4 fun c dg=>qJh c dg∧Q (.v (.int .i64 (qJk c dg))) []
 | _,_=>none
theorem zHt(args:List SV)(h:List HO)(tr:(SV→List HO→Prop)→Prop)(Q:SV→List HO→Prop)(hc:zOu args h=some tr)(ht:tr Q):qI Try.prog 86 args h Q:=by
 unfold zOu at hc
 split at hc
 ·simp only[sI] at hc
  subst hc
  obtain⟨c,dg,rfl,rfl,rfl,⟨rfl,e0⟩,⟨rfl,e1⟩,⟨rfl,e2⟩,⟨rfl,e3⟩,⟨rfl,e4⟩,hk,hq⟩:=ht.h
  exact qI.ac (zQt _ _ _ c dg hk hq.1 Q hq.2) ⟨⟨rfl,rfl,rfl,rfl,e0⟩,⟨rfl,rfl,rfl,rfl,e1⟩,⟨rfl,rfl,rfl,rfl,e2⟩,⟨rfl,rfl,rfl,rfl,e3⟩,⟨rfl,rfl,rfl,rfl,e4⟩,trivial⟩
 ·cases hc
noncomputable def K51:Con Try.prog:=K50.add 86 zOu zHt
end Go.Proofs.Ytlmjdcbhpffanaa
/- circuit.Degree. -/
namespace Go.Pl
open Go.Sx
def qAz(c:Cir):Bool:=qSv c&&!c.gates.any (fun n=>!wQ c n)&&!c.looks.any (fun x=>!xR c x)&&eqF c [] c.eqs&&decide (qJk c (qW c.nodes)≤8)
def xA(c:Cir):Int:=if qDj c.nodes c.fx c.ad c.ins=0 then(if qAz c then 0 else 120) else qDj c.nodes c.fx c.ad c.ins
def qZd(c:Cir):Int:=if xA c=0 then qJk c (qW c.nodes) else 0
theorem qQv:∀(l:List Nd) (out:List Int),(∀ z∈out,0≤z∧z≤1000)→∀ z∈qFq out l,0≤z∧z≤1000
 | [],out,h=>h
 | x::r,out,h=>by
  rw[qFq]
  refine qQv r _ fun z hz=>?_
  rcases List.mem_append.1 hz with hz | hz
  ·exact h z hz
  ·rw[List.mem_singleton] at hz
   rw[hz]
   exact qKs h x
theorem qUx(l:List Nd):∀ z∈qW l,0≤z∧z≤1000:=by
 rw[qW]
 split
 ·exact qQv l [] (fun z hz=>by cases hz)
 ·intro z hz; cases hz
theorem qTp{l:List Nd}{f a i:Int}(h:qDj l f a i=0):l.length≤64∧jT 0 l=true:=by
 rw[qDj] at h
 split at h
 ·cases h
 ·rename_i hh
  refine⟨by omega,?_⟩
  cases ho:jT 0 l with
  | true=>rfl
  | false=>exact absurd (.inr (.inl ho)) hh
theorem qGm{l:List Nd}(h:jT 0 l=true):(qW l).length=l.length:=by
 rw[qW,if_pos h,qGy]; simp
theorem qKa{α:Type}{p:α→Bool}{l:List α}(h:l.any (fun n=>!p n)=false):∀ x∈l,p x=true:=by
 intro x hx
 have:=List.any_eq_false.1 h x hx
 simpa using this
theorem qNa{c:Cir}{x:Int}(h:xJ c x=true):0≤x∧x<(c.nodes.length:Int):=by
 rw[xJ,Bool.and_eq_true,decide_eq_true_eq] at h
 exact h.1
theorem qWc{c:Cir}{x:List Int×List Int}(h:xR c x=true):(∀ g∈x.1,xJ c g=true)∧(∀ g∈x.2,xJ c g=true)∧1≤x.1.length∧x.1.length≤4∧x.2.length=x.1.length:=by
 simp only[xR,Bool.and_eq_true,Bool.not_eq_true',decide_eq_true_eq] at h
 obtain⟨⟨h1,h2⟩,h3⟩:=h
 exact⟨qKa h2,qKa h3,h1⟩
theorem zEz{c:Cir}(h0:qDj c.nodes c.fx c.ad c.ins=0)(h1:c.gates.any (fun n=>!wQ c n)=false)(h2:c.looks.any (fun x=>!xR c x)=false):qJh c (qW c.nodes) where
 g:=by
  intro g hg
  have:=qKa h1 g hg
  rw[wQ,decide_eq_true_eq] at this
  rw[qGm (qTp h0).2]
  exact this
 l:=by
  intro x hx
  obtain⟨p1,p2,_⟩:=qWc (qKa h2 x hx)
  rw[qGm (qTp h0).2]
  exact⟨fun g hg=>qNa (p1 g hg),fun g hg=>qNa (p2 g hg)⟩
 d:=qUx c.nodes
theorem zHa{c:Cir}(h0:qDj c.nodes c.fx c.ad c.ins=0)(h:qAz c=false):xA c=120∧qZd c=0:=by
 have:xA c=120:=by rw[xA,if_pos h0,h]; rfl
 exact⟨this,by rw[qZd,this]; rfl⟩
theorem zCa{c:Cir}(h0:qDj c.nodes c.fx c.ad c.ins=0)(h:qAz c=true):xA c=0∧qZd c=qJk c (qW c.nodes):=by
 have:xA c=0:=by rw[xA,if_pos h0,h]; rfl
 exact⟨this,by rw[qZd,this]; rfl⟩
end Go.Pl
namespace Go.Proofs.Ytlmjdcbhpffanaa
open Go.Sx Go.Pl
set_option linter.unusedVariables false
set_option maxRecDepth 100000
theorem pdS(b0 b1:Bool)(c:Cir)(K:List It→St→Prop)(R:SV→List HO→Prop):W (xwp Try.prog X K51 [(79,[]),(82,[])] 60 (qO Try.f56 [] []) [] [.at []] ⟨qQ 0 [.agg [.v (.int .i64 c.fx),.v (.int .i64 c.ad),.v (.int .i64 c.ins),.x 0 [],.x 1 [],.x 2 [],.x 3 []]],[.ext b0 (.s false 7 c.nodes.length (cN c.nodes)),.ext b1 (.s false 1 c.gates.length (cI c.gates)),.ext false (.s false 2 c.looks.length (cL c.looks)),.ext false (.s false 2 c.eqs.length (cK c.eqs))]⟩ K R)=W (∃(l:List Nd),List.length c.4=List.length l∧IsC c.4.length 7 (cN c.4) (cN l)∧List.length l≤4398046511104∧bif !qDj l c.1 c.2 c.3==(0:Int) then R (.tup [.v (qA 0),.v (qA (qDj l c.1 c.2 c.3))]) [] else(∃(l:List Nd),List.length c.4=List.length l∧IsC c.4.length 7 (cN c.4) (cN l)∧List.length l≤4398046511104∧(∀ M:Mem,0+8≤8)∧lH c.1 c.2 c.3 c.4.length c.5.length c.6.length c.7.length (List.length (qW l)) (cN c.4) (cI c.5) (cL c.6) (cK c.7) (cI (qW l)) fun(c_1:Cir) (dg:List Int)=>bif !qSv c_1 then R (.tup [.v (qA 0),.v (qA 120)]) [] else lI c.5.length (cI c.5) fun(l_1:List Int)=>lKc (lc 8 [.v (qA c.1),.v (qA c.2),.v (qA c.3),.s false 7 c.4.length (cN c.4),.s false 1 c.5.length (cI c.5),.s false 2 c.6.length (cL c.6),.s false 2 c.7.length (cK c.7),.s false 1 (List.length (qW l)) (cI (qW l))]) fun(c_2:Cir) (dg:List Int)=>bif decide ((0:Int)≤qX (fun(n:Int)=>!wQ c_2 n) 0 l_1) then R (.tup [.v (qA 0),.v (qA 120)]) [] else lLk c.6.length (cL c.6) fun(l_2:List (List Int×List Int))=>lKc (lc 8 [.v (qA c.1),.v (qA c.2),.v (qA c.3),.s false 7 c.4.length (cN c.4),.s false 1 c.5.length (cI c.5),.s false 2 c.6.length (cL c.6),.s false 2 c.7.length (cK c.7),.s false 1 (List.length (qW l)) (cI (qW l))]) fun(c_3:Cir) (dg:List Int)=>bif decide ((0:Int)≤qX (fun(x:List Int×List Int)=>!xR c_3 x) 0 l_2) then R (.tup [.v (qA 0),.v (qA 120)]) [] else lH c.1 c.2 c.3 c.4.length c.5.length c.6.length c.7.length (List.length (qW l)) (cN c.4) (cI c.5) (cL c.6) (cK c.7) (cI (qW l)) fun(c_4:Cir) (dg:List Int)=>bif !eqF c_4 [] c_4.7 then R (.tup [.v (qA 0),.v (qA 120)]) [] else lH c.1 c.2 c.3 c.4.length c.5.length c.6.length c.7.length (List.length (qW l)) (cN c.4) (cI c.5) (cL c.6) (cK c.7) (cI (qW l)) fun(c_5:Cir) (dg:List Int)=>qJh c_5 dg∧bif decide ((8:Int)<qJk c_5 dg) then R (.tup [.v (qA 0),.v (qA 120)]) [] else lH c.1 c.2 c.3 c.4.length c.5.length c.6.length c.7.length (List.length (qW l)) (cN c.4) (cI c.5) (cL c.6) (cK c.7) (cI (qW l)) fun(c:Cir) (dg:List Int)=>qJh c dg∧R (.tup [.v (qA (qJk c dg)),.v (qA 0)]) [])∧∃(l:List Nd),List.length c.4=List.length l∧IsC c.4.length 7 (cN c.4) (cN l)∧List.length l≤4398046511104∧(∀ M:Mem,0+8≤8)∧lH c.1 c.2 c.3 c.4.length c.5.length c.6.length c.7.length (List.length (qW l)) (cN c.4) (cI c.5) (cL c.6) (cK c.7) (cI (qW l)) fun(c_1:Cir) (dg:List Int)=>bif !qSv c_1 then R (.tup [.v (qA 0),.v (qA 120)]) [] else lI c.5.length (cI c.5) fun(l_1:List Int)=>lKc (lc 8 [.v (qA c.1),.v (qA c.2),.v (qA c.3),.s false 7 c.4.length (cN c.4),.s false 1 c.5.length (cI c.5),.s false 2 c.6.length (cL c.6),.s false 2 c.7.length (cK c.7),.s false 1 (List.length (qW l)) (cI (qW l))]) fun(c_2:Cir) (dg:List Int)=>bif decide ((0:Int)≤qX (fun(n:Int)=>!wQ c_2 n) 0 l_1) then R (.tup [.v (qA 0),.v (qA 120)]) [] else lLk c.6.length (cL c.6) fun(l_2:List (List Int×List Int))=>lKc (lc 8 [.v (qA c.1),.v (qA c.2),.v (qA c.3),.s false 7 c.4.length (cN c.4),.s false 1 c.5.length (cI c.5),.s false 2 c.6.length (cL c.6),.s false 2 c.7.length (cK c.7),.s false 1 (List.length (qW l)) (cI (qW l))]) fun(c_3:Cir) (dg:List Int)=>bif decide ((0:Int)≤qX (fun(x:List Int×List Int)=>!xR c_3 x) 0 l_2) then R (.tup [.v (qA 0),.v (qA 120)]) [] else lH c.1 c.2 c.3 c.4.length c.5.length c.6.length c.7.length (List.length (qW l)) (cN c.4) (cI c.5) (cL c.6) (cK c.7) (cI (qW l)) fun(c_4:Cir) (dg:List Int)=>bif !eqF c_4 [] c_4.7 then R (.tup [.v (qA 0),.v (qA 120)]) [] else lH c.1 c.2 c.3 c.4.length c.5.length c.6.length c.7.length (List.length (qW l)) (cN c.4) (cI c.5) (cL c.6) (cK c.7) (cI (qW l)) fun(c_5:Cir) (dg:List Int)=>qJh c_5 dg∧bif decide ((8:Int)<qJk c_5 dg) then R (.tup [.v (qA 0),.v (qA 120)]) [] else lH c.1 c.2 c.3 c.4.length c.5.length c.6.length c.7.length (List.length (qW l)) (cN c.4) (cI c.5) (cL c.6) (cK c.7) (cI (qW l)) fun(c:Cir) (dg:List Int)=>qJh c dg∧R (.tup [.v (qA (qJk c dg)),.v (qA 0)]) []):=by kernel_rfl
theorem bPd:Try.f56.body.isSome=true:=by kernel_rfl
theorem nPd(c:Cir):Nat.ble [(.agg [.v (.int .i64 c.fx),.v (.int .i64 c.ad),.v (.int .i64 c.ins),.x 0 [],.x 1 [],.x 2 [],.x 3 []]:SV)].length Try.f56.ntmps=true:=by kernel_rfl
theorem zVi(b0 b1:Bool)(c:Cir)(hc:c.ok)(Q:SV→List HO→Prop)(hq:Q (.tup [.v (.int .i64 (qZd c)),.v (.int .i64 (xA c))]) []):qI Try.prog 56 [.agg [.v (.int .i64 c.fx),.v (.int .i64 c.ad),.v (.int .i64 c.ins),.x 0 [],.x 1 [],.x 2 [],.x 3 []]] [.ext b0 (.s false 7 c.nodes.length (cN c.nodes)),.ext b1 (.s false 1 c.gates.length (cI c.gates)),.ext false (.s false 2 c.looks.length (cL c.looks)),.ext false (.s false 2 c.eqs.length (cK c.eqs))] Q:=by
 refine qJ Try.func56 bPd ?_ ?_
 ·exact nPd c
 have h1:=hc.n.2
 have h2:=hc.g.2
 have h3:=hc.l.2
 refine qE hm 60 ((pdS b0 b1 c _ _).mpr ⟨?_⟩)
 refine⟨c.nodes,rfl,IsC.refl _ _ _,by omega,?_⟩
 simp only[qF,zC,zF]
 refine qH (fun h0=>?_) (fun h0=>?_)
 ·have no:qAz c=false→Q (.tup [.v (.int .i64 0),.v (.int .i64 120)]) []:=fun h=>by
   obtain⟨e1,e2⟩:=zHa h0 h
   rw[e1,e2] at hq
   exact hq
  have yes:qAz c=true→Q (.tup [.v (.int .i64 (qJk c (qW c.nodes))),.v (.int .i64 0)]) []:=fun h=>by
   obtain⟨e1,e2⟩:=zCa h0 h
   rw[e1,e2] at hq
   exact hq
  have lk:∀ x∈c.looks,x.1.length*8≤140737488351232∧x.2.length*8≤140737488351232:=fun x hx=>⟨(hc.l.1 x hx).1.2,(hc.l.1 x hx).2.2⟩
  refine And.intro ?_ ?_
  all_goals
   refine⟨c.nodes,rfl,IsC.refl _ _ _,by omega,aI (qHw c _ hc (qK (fun a1=>?_) (fun a1=>no ?_)))⟩
   ·refine⟨⟨c.gates,rfl,IsC.refl _ _ _,by omega,qRj c _ hc (qH (fun a2=>no ?_) (fun a2=>?_))⟩⟩
    ·rw[qAz,← zU (fun n=>!wQ c n) c.gates 0,decide_eq_true a2]; simp
    ·have a2':c.gates.any (fun n=>!wQ c n)=false:=by rw[← zU _ c.gates 0,decide_eq_false a2]
     refine⟨⟨c.looks,rfl,IsC.refl _ _ _,h3,lk,qRj c _ hc (qH (fun a3=>no ?_) (fun a3=>?_))⟩⟩
     ·rw[qAz,← zU (fun x=>!xR c x) c.looks 0,decide_eq_true a3]; simp
     ·have a3':c.looks.any (fun x=>!xR c x)=false:=by rw[← zU _ c.looks 0,decide_eq_false a3]
      have ho:=zEz h0 a2' a3'
      refine qHw c _ hc (qK (fun a4=>?_) (fun a4=>no ?_))
      ·refine qHw c _ hc ⟨ho,qH (fun a5=>no ?_) (fun a5=>qHw c _ hc ⟨ho,yes ?_⟩)⟩
       ·rw[qAz,decide_eq_false (by omega)]; simp
       ·rw[qAz,a1,a2',a3',a4,decide_eq_true (by omega)]; rfl
      ·rw[qAz,a4]; simp
   ·rw[qAz,a1]; rfl
 ·have e1:xA c=qDj c.nodes c.fx c.ad c.ins:=by rw[xA,if_neg h0]
  rw[qZd,e1,if_neg h0] at hq
  exact hq
noncomputable def gPd:List SV→List HO→Option ((SV→List HO→Prop)→Prop)
 | [.agg [.v (.int .i64 fx),.v (.int .i64 ad),.v (.int .i64 ins),.x 0 [],.x 1 [],.x 2 [],.x 3 []]],[.ext _ (.s false 7 n0 c0),.ext _ (.s false 1 n1 c1),.ext false (.s false 2 n2 c2),.ext false (.s false 2 n3 c3)] =>
  some fun Q=>lC fx ad ins n0 n1 n2 n3 c0 c1 c2 c3 fun c=>Q (.tup [.v (.int .i64 (qZd c)),.v (.int .i64 (xA c))]) []
 | _,_=>none
theorem zNs(args:List SV)(h:List HO)(tr:(SV→List HO→Prop)→Prop)(Q:SV→List HO→Prop)(hc:gPd args h=some tr)(ht:tr Q):qI Try.prog 56 args h Q:=by
 unfold gPd at hc
 split at hc
 ·simp only[sI] at hc
  subst hc
  obtain⟨c,rfl,rfl,rfl,⟨rfl,e0⟩,⟨rfl,e1⟩,⟨rfl,e2⟩,⟨rfl,e3⟩,hk,hq⟩:=ht.h
  exact qI.ac (zVi _ _ c hk Q hq) ⟨⟨rfl,rfl,rfl,rfl,e0⟩,⟨rfl,rfl,rfl,rfl,e1⟩,⟨rfl,rfl,rfl,rfl,e2⟩,⟨rfl,rfl,rfl,rfl,e3⟩,trivial⟩
 ·cases hc
noncomputable def K52:Con Try.prog:=K51.add 56 gPd zNs
end Go.Proofs.Ytlmjdcbhpffanaa
/- Usable rows. -/
namespace Go.Pl
open Go.Sx
def usN(k:Int):Int:=if k<2 then 0 else if 30<k then 0 else 2^k.toNat-4
theorem zJp{k:Int}(h1:2≤k)(h2:k≤30):(4:Int)≤2^k.toNat∧(2:Int)^k.toNat≤1073741824:=by
 have e1:(2:Nat)^2≤2^k.toNat:=Nat.pow_le_pow_right (by omega) (by omega)
 have e2:(2:Nat)^k.toNat≤2^30:=Nat.pow_le_pow_right (by omega) (by omega)
 have e3:((2^k.toNat:Nat):Int)=(2:Int)^k.toNat:=by push_cast; rfl
 omega
theorem zWl{k:Int}(h1:2≤k)(h2:k≤30):IntKind.wrap IntKind.i64 (IntKind.wrap IntKind.i64 ((1:Int)*(2:Int)^(if Int.toNat k≤64 then Int.toNat k else 64))-(4:Int))=usN k:=by
 obtain⟨p1,p2⟩:=zJp h1 h2
 rw[if_pos (by omega),Int.one_mul,jA (2^k.toNat) (by omega),jA (2^k.toNat-4) (by omega),usN,if_neg (by omega),if_neg (by omega)]
end Go.Pl
namespace Go.Proofs.Ytlmjdcbhpffanaa
open Go.Sx Go.Pl
set_option linter.unusedVariables false
set_option maxRecDepth 100000
theorem usS(k:Int)(K:List It→St→Prop)(R:SV→List HO→Prop):W (xwp Try.prog X K52 [] 60 (qO Try.f15 [] []) [] [.at []] ⟨qQ 0 [.v (.int .i64 k)],[]⟩ K R)=W (bif decide (k<(2:Int)) then R (.v (qA 0)) [] else bif decide ((30:Int)<k) then R (.v (qA 0)) [] else(∀ M:Mem,¬k<(0:Int))∧R (.v (qA (IntKind.wrap .i64 (IntKind.wrap .i64 ((1:Int)*(2:Int)^if Int.toNat k≤64 then Int.toNat k else 64)-(4:Int))))) []):=by kernel_rfl
theorem bus:Try.f15.body.isSome=true:=by kernel_rfl
theorem nus(k:Int):Nat.ble [SV.v (.int .i64 k)].length Try.f15.ntmps=true:=by kernel_rfl
theorem zUv(k:Int)(Q:SV→List HO→Prop)(hq:Q (.v (.int .i64 (usN k))) []):qI Try.prog 15 [.v (.int .i64 k)] [] Q:=by
 refine qJ Try.func15 bus ?_ ?_
 ·exact nus k
 refine qE hm 60 ((usS k _ _).mpr ⟨?_⟩)
 simp only[qF]
 refine qH (fun h=>?_) (fun h=>qH (fun h2=>?_) (fun h2=>?_))
 ·rw[usN,if_pos h] at hq
  exact hq
 ·rw[usN,if_neg h,if_pos h2] at hq
  exact hq
 ·refine And.intro (fun _=>by omega) ?_
  rw[zWl (by omega) (by omega)]
  exact hq
noncomputable def zNx:List SV→List HO→Option ((SV→List HO→Prop)→Prop)
 | [.v (.int .i64 k)],[]=>some fun Q=>Q (.v (.int .i64 (usN k))) []
 | _,_=>none
theorem zKc(args:List SV)(h:List HO)(tr:(SV→List HO→Prop)→Prop)(Q:SV→List HO→Prop)(hc:zNx args h=some tr)(ht:tr Q):qI Try.prog 15 args h Q:=by
 unfold zNx at hc
 split at hc
 ·simp only[sI] at hc
  subst hc
  exact zUv _ Q ht
 ·cases hc
noncomputable def K53:Con Try.prog:=(K52.add 15 zNx zKc)
end Go.Proofs.Ytlmjdcbhpffanaa
/- circuit.Rows. -/
namespace Go.Pl
open Go.Sx
def frQ(f:Int)(q:Int×Int×Int):Int:=if f<IntKind.wrap .i64 (0-q.2.2) then IntKind.wrap .i64 (0-q.2.2) else f
def toQ(kk t:Int)(q:Int×Int×Int):Int:=if IntKind.wrap .i64 (usN kk-q.2.2)<t then IntKind.wrap .i64 (usN kk-q.2.2) else t
def zBm(l:List (Int×Int×Int))(k:Int):Int×Int:=if l.foldl (toQ k) (usN k)≤l.foldl frQ 0 then(0,0) else(l.foldl frQ 0,l.foldl (toQ k) (usN k))
def qPl(c:Cir)(k x:Int):Int×Int:=if xA c=0∧0≤x∧x<(c.nodes.length:Int) then zBm (wI c x) k else(0,0)
theorem qJe{α:Type}(f:α→Int×Int×Int→α)(a:α){l:List (Int×Int×Int)}{k:Nat}(h:k<l.length):(l.take (k+1)).foldl f a=f ((l.take k).foldl f a) (gQ l k):=by
 rw[List.take_add_one,List.getElem?_eq_getElem h,List.foldl_append,gQ,List.getD_eq_getElem?_getD,List.getElem?_eq_getElem h]; rfl
end Go.Pl
namespace Go.Proofs.Ytlmjdcbhpffanaa
open Go.Sx Go.Pl
set_option linter.unusedVariables false
set_option maxRecDepth 100000
theorem prS(b0 b1:Bool)(c:Cir)(k x:Int)(K:List It→St→Prop)(R:SV→List HO→Prop):W (xwp Try.prog X K53 [(32,[])] 60 (qO Try.f29 [] [⟨[0,1,0,1,1,1],[32,31,30,9,8,1],[]⟩]) [] [.at []] ⟨qQ 0 [.agg [.v (.int .i64 c.fx),.v (.int .i64 c.ad),.v (.int .i64 c.ins),.x 0 [],.x 1 [],.x 2 [],.x 3 []],.v (.int .i64 k),.v (.int .i64 x)],[.ext b0 (.s false 7 c.nodes.length (cN c.nodes)),.ext b1 (.s false 1 c.gates.length (cI c.gates)),.ext false (.s false 2 c.looks.length (cL c.looks)),.ext false (.s false 2 c.eqs.length (cK c.eqs))]⟩ K R)=W (lC c.1 c.2 c.3 c.4.length c.5.length c.6.length c.7.length (cN c.4) (cI c.5) (cL c.6) (cK c.7) fun(c_1:Cir)=>bif !xA c_1==(0:Int) then R (.tup [.v (qA 0),.v (qA 0)]) [] else bif decide (x<(0:Int)) then R (.tup [.v (qA 0),.v (qA 0)]) [] else bif decide ((↑c.4.length:Int)≤x) then R (.tup [.v (qA 0),.v (qA 0)]) [] else lC c.1 c.2 c.3 c.4.length c.5.length c.6.length c.7.length (cN c.4) (cI c.5) (cL c.6) (cK c.7) fun(c:Cir)=>K [.at [0,1,0,1,1,1],.blk 0,.at [1,1,1,1]] (St.mk [(32,.v (qA 0)),(31,.v (qA (↑(List.length (wI c x)):Int))),(30,.o 0),(9,.v (qA (usN k))),(8,.v (qA 0)),(1,.v (qA k))] [.rowc 128 3 (List.length (wI c x)) (.fn (cQ (wI c x)))])):=by kernel_rfl
theorem prR(l:List (Int×Int×Int))(f t kk:Int)(k M:Nat)(K:List It→St→Prop)(R:SV→List HO→Prop):W (xwp Try.prog X K53 [] 60 (qO Try.f29 [] [⟨[0,1,0,1,1,1],[32,31,30,9,8,1],[]⟩]) [] (.at [0,0,1,0,1,1,1]::.rnd [0,0,1,0,1,1,1] M::[.blk 0,.at [1,1,1,1]]) ⟨[(32,.v (.int .i64 (k:Int))),(31,.v (.int .i64 (l.length:Int))),(30,.o 0),(9,.v (.int .i64 t)),(8,.v (.int .i64 f)),(1,.v (.int .i64 kk))],[.rowc 128 3 l.length (.fn (cQ l))]⟩ K R)=W (bif decide ((↑k:Int)<(↑l.length:Int)) then(∀ M:Mem,(0:Int)≤(↑k:Int)∧(↑k:Int)<(↑l.length:Int))∧(∀ M:Mem,k<List.length l)∧(∀ M:Mem,0+3≤3)∧K [.rnd [0,0,1,0,1,1,1] M,.blk 0,.at [1,1,1,1]] (St.mk [(32,.v (qA (IntKind.wrap .i64 ((↑k:Int)+(1:Int))))),(31,.v (qA (↑l.length:Int))),(30,.o 0),(9,.v (qA (if IntKind.wrap .i64 (usN kk-(gQ l k).2.2)<t then IntKind.wrap .i64 (usN kk-(gQ l k).2.2) else t))),(8,.v (qA (if f<IntKind.wrap .i64 ((0:Int)-(gQ l k).2.2) then IntKind.wrap .i64 ((0:Int)-(gQ l k).2.2) else f))),(1,.v (qA kk))] [.rowc 128 3 l.length (.fn (cQ l))]) else bif decide (t≤f) then R (.tup [.v (qA 0),.v (qA 0)]) [] else R (.tup [.v (qA f),.v (qA t)]) []):=by kernel_rfl
theorem zAo(l:List (Int×Int×Int))(hl:l.length≤4398046511104)(kk:Int)(Q:SV→List HO→Prop)(hq:Q (.tup [.v (.int .i64 (zBm l kk).1),.v (.int .i64 (zBm l kk).2)]) []):∀(d k:Nat) (f t:Int),k+d=l.length→f=(l.take k).foldl frQ 0→t=(l.take k).foldl (toQ kk) (usN kk) →
  FOk Try.prog Try.f29 Q (.rnd [0,0,1,0,1,1,1] (d+1)::[.blk 0,.at [1,1,1,1]]) ⟨[(32,.v (.int .i64 (k:Int))),(31,.v (.int .i64 (l.length:Int))),(30,.o 0),(9,.v (.int .i64 t)),(8,.v (.int .i64 f)),(1,.v (.int .i64 kk))],[.rowc 128 3 l.length (.fn (cQ l))]⟩
 | 0,k,f,t,hd,hf,ht=>by
  refine FOk.rnd (qE hm 60 ((prR l f t kk k 0 _ _).mpr ⟨?_⟩))
  rw[qF,if_neg (by omega),qF]
  rw[show k=l.length by omega,List.take_length] at hf ht
  rw[hf,ht]
  rw[zBm] at hq
  refine qH (fun h=>?_) (fun h=>?_)
  ·rw[if_pos h] at hq; exact hq
  ·rw[if_neg h] at hq; exact hq
 | d+1,k,f,t,hd,hf,ht=>by
  have hk:k<l.length:=by omega
  refine FOk.rnd (qE hm 60 ((prR l f t kk k (d+1) _ _).mpr ⟨?_⟩))
  rw[qF,if_pos (by omega),qN _ (by omega)]
  refine aI (aI (And.intro (fun _=>by omega) ?_))
  exact zAo l hl kk Q hq d (k+1) _ _ (by omega) (by rw[qJe _ _ hk,← hf]; rfl) (by rw[qJe _ _ hk,← ht]; rfl)
theorem bPr:Try.f29.body.isSome=true:=by kernel_rfl
theorem nPr(c:Cir)(k x:Int):Nat.ble [(.agg [.v (.int .i64 c.fx),.v (.int .i64 c.ad),.v (.int .i64 c.ins),.x 0 [],.x 1 [],.x 2 [],.x 3 []]:SV),.v (.int .i64 k),.v (.int .i64 x)].length Try.f29.ntmps=true:=by kernel_rfl
theorem zSk(b0 b1:Bool)(c:Cir)(hc:c.ok)(k x:Int)(Q:SV→List HO→Prop)(hq:Q (.tup [.v (.int .i64 (qPl c k x).1),.v (.int .i64 (qPl c k x).2)]) []):qI Try.prog 29 [.agg [.v (.int .i64 c.fx),.v (.int .i64 c.ad),.v (.int .i64 c.ins),.x 0 [],.x 1 [],.x 2 [],.x 3 []],.v (.int .i64 k),.v (.int .i64 x)] [.ext b0 (.s false 7 c.nodes.length (cN c.nodes)),.ext b1 (.s false 1 c.gates.length (cI c.gates)),.ext false (.s false 2 c.looks.length (cL c.looks)),.ext false (.s false 2 c.eqs.length (cK c.eqs))] Q:=by
 refine qJ Try.func29 bPr ?_ ?_
 ·exact nPr c k x
 have h1:=hc.n.2
 have h2:=qPi c x
 refine qE hm 60 ((prS b0 b1 c k x _ _).mpr ⟨?_⟩)
 have no:¬ (xA c=0∧0≤x∧x<(c.nodes.length:Int))→Q (.tup [.v (.int .i64 0),.v (.int .i64 0)]) []:=fun h=>by
  rw[qPl,if_neg h] at hq
  exact hq
 simp only[qF,zC,zF]
 refine qLj c hc (qH (fun a1=>qH (fun a2=>no (by omega)) (fun a2=>qH (fun a3=>no (by omega)) (fun a3=>qLj c hc ?_))) (fun a1=>no (fun h=>a1 h.1)))
 rw[qPl,if_pos (by omega)] at hq
 exact FOk.loop ((wI c x).length+1) (by kernel_rfl) (zAo (wI c x) (by omega) k Q hq (wI c x).length 0 _ _ (by omega) rfl rfl)
noncomputable def gPr:List SV→List HO→Option ((SV→List HO→Prop)→Prop)
 | [.agg [.v (.int .i64 fx),.v (.int .i64 ad),.v (.int .i64 ins),.x 0 [],.x 1 [],.x 2 [],.x 3 []],.v (.int .i64 k),.v (.int .i64 x)],[.ext _ (.s false 7 n0 c0),.ext _ (.s false 1 n1 c1),.ext false (.s false 2 n2 c2),.ext false (.s false 2 n3 c3)] =>
  some fun Q=>lC fx ad ins n0 n1 n2 n3 c0 c1 c2 c3 fun c=>Q (.tup [.v (.int .i64 (qPl c k x).1),.v (.int .i64 (qPl c k x).2)]) []
 | _,_=>none
theorem zLl(args:List SV)(h:List HO)(tr:(SV→List HO→Prop)→Prop)(Q:SV→List HO→Prop)(hc:gPr args h=some tr)(ht:tr Q):qI Try.prog 29 args h Q:=by
 unfold gPr at hc
 split at hc
 ·simp only[sI] at hc
  subst hc
  obtain⟨c,rfl,rfl,rfl,⟨rfl,e0⟩,⟨rfl,e1⟩,⟨rfl,e2⟩,⟨rfl,e3⟩,hk,hq⟩:=ht.h
  exact qI.ac (zSk _ _ c hk _ _ Q hq) ⟨⟨rfl,rfl,rfl,rfl,e0⟩,⟨rfl,rfl,rfl,rfl,e1⟩,⟨rfl,rfl,rfl,rfl,e2⟩,⟨rfl,rfl,rfl,rfl,e3⟩,trivial⟩
 ·cases hc
noncomputable def K54:Con Try.prog:=K53.add 29 gPr zLl
end Go.Proofs.Ytlmjdcbhpffanaa
/- The degree, by the document. -/
namespace Go.Pl
open Go.Sx
end Go.Pl
namespace Go.Proofs.Ytlmjdcbhpffanaa
open Go.Sx Go.Pl
set_option linter.unusedVariables false
set_option maxRecDepth 100000
noncomputable def K55:Con Try.prog:=K54
end Go.Proofs.Ytlmjdcbhpffanaa
/- Is a circuit right? By the document. -/
namespace Go.Pl
open Go.Sx
end Go.Pl
namespace Go.Proofs.Ytlmjdcbhpffanaa
open Go.Sx Go.Pl
set_option linter.unusedVariables false
set_option maxRecDepth 100000
noncomputable def K56:Con Try.prog:=K55
end Go.Proofs.Ytlmjdcbhpffanaa
/- Degree and Rows, by the document; great. -/
namespace Go.Pl
open Go.Sx
theorem zCs{c:Cir}(h:xA c=0):qDj c.nodes c.fx c.ad c.ins=0∧qAz c=true:=by
 rw[xA] at h
 split at h
 ·rename_i h0
  refine⟨h0,?_⟩
  cases hg:qAz c with
  | true=>rfl
  | false=>rw[hg] at h; cases h
 ·rename_i h0; exact absurd h h0
theorem zBv{c:Cir}(h:qAz c=true):qSv c=true∧c.gates.any (fun n=>!wQ c n)=false∧c.looks.any (fun x=>!xR c x)=false∧eqF c [] c.eqs=true∧qJk c (qW c.nodes)≤8:=by
 simp only[qAz,Bool.and_eq_true,Bool.not_eq_true',decide_eq_true_eq] at h
 exact⟨h.1.1.1.1,h.1.1.1.2,h.1.1.2,h.1.2,h.2⟩
end Go.Pl
namespace Go.Proofs.Ytlmjdcbhpffanaa
open Go.Sx Go.Pl
set_option linter.unusedVariables false
set_option maxRecDepth 100000
noncomputable def K57:Con Try.prog:=((K56))
end Go.Proofs.Ytlmjdcbhpffanaa
/- Tables and sheets; elements copied as frozen memory. -/
namespace Go.Pl
open Go.Sx
def gT(l:List (List Nat))(k:Nat):List Nat:=l.getD k []
noncomputable def zKv(x:List Nat)(_:Nat):qB:=.s false 4 x.length (cE x)
noncomputable def cT(l:List (List Nat)):Nat→Nat→qB:=fun k j=>zKv (gT l k) j
def dP:Int×Int×Int×Int:=(0,0,0,0)
def gP(l:List (Int×Int×Int×Int))(k:Nat):Int×Int×Int×Int:=l.getD k dP
def zKu(x:Int×Int×Int×Int)(j:Nat):qB :=
 match j with
 | 0=>.v (.int .i64 x.1)
 | 1=>.v (.int .i64 x.2.1)
 | 2=>.v (.int .i64 x.2.2.1)
 | 3=>.v (.int .i64 x.2.2.2)
 | _=>.v undef
def cP(l:List (Int×Int×Int×Int)):Nat→Nat→qB:=fun k j=>zKu (gP l k) j
structure Sht where
  fx : List (List Nat)
  ad : List (List Nat)
  is : List (List Nat)
  cp : List (Int × Int × Int × Int)
def okT(l:List (List Nat)):Prop:=(∀ x∈l,(∀ v∈x,v<top)∧x.length*32≤140737488351232)∧l.length*24≤140737488351232
structure Sht.ok (s : Sht) : Prop where
  f : okT s.fx
  a : okT s.ad
  i : okT s.is
  c : (∀ x ∈ s.cp, i64 x.1 ∧ i64 x.2.1 ∧ i64 x.2.2.1 ∧ i64 x.2.2.2) ∧ s.cp.length * 32 ≤ 140737488351232
structure lT (n : Nat) (c : Nat → Nat → qB) (k : List (List Nat) → Prop) : Prop where
  h : ∃ l : List (List Nat), n = l.length ∧ IsC n 1 c (cT l) ∧ okT l ∧ k l
theorem qLt{l:List (List Nat)}(h:okT l){k:List (List Nat)→Prop}(hk:k l):lT l.length (cT l) k:=⟨⟨l,rfl,IsC.refl _ _ _,h,hk⟩⟩
structure lS (n0 n1 n2 n3 : Nat) (c0 c1 c2 c3 : Nat → Nat → qB) (k : Sht → Prop) : Prop where
  h : ∃ s : Sht, (n0 = s.fx.length ∧ IsC n0 1 c0 (cT s.fx)) ∧ (n1 = s.ad.length ∧ IsC n1 1 c1 (cT s.ad)) ∧ (n2 = s.is.length ∧ IsC n2 1 c2 (cT s.is)) ∧ (n3 = s.cp.length ∧ IsC n3 4 c3 (cP s.cp)) ∧ s.ok ∧ k s
theorem zKw(s:Sht)(hs:s.ok){k:Sht→Prop}(h:k s):lS s.fx.length s.ad.length s.is.length s.cp.length (cT s.fx) (cT s.ad) (cT s.is) (cP s.cp) k :=
 ⟨⟨s,⟨rfl,IsC.refl _ _ _⟩,⟨rfl,IsC.refl _ _ _⟩,⟨rfl,IsC.refl _ _ _⟩,⟨rfl,IsC.refl _ _ _⟩,hs,h⟩⟩
theorem zAw{l:List (List Nat)}{k:Nat}(a:List Nat)(h:l.length=k):IsC (k+1) 1 (Ct.app k (.fn (cT l)) (.lit 1 [.s false 4 a.length (cE a)])).at (Ct.fn (cT (l++[a]))).at:=by
 subst h
 exact xY zKv [] 1 l a _ fun j hj=>by
  match j,hj with
  | 0,_=>rfl
theorem qBt{l:List (List Nat)}{k:Nat}(h:k<l.length):gT l k∈l:=by
 rw[gT,List.getD_eq_getElem?_getD,List.getElem?_eq_getElem h]
 exact List.getElem_mem h
theorem qZr{l:List (List Nat)}{k:Nat}(h:k<l.length):l.take (k+1)=l.take k++[gT l k]:=by
 rw[List.take_add_one,List.getElem?_eq_getElem h,gT,List.getD_eq_getElem?_getD,List.getElem?_eq_getElem h]; rfl
theorem zJd{l:List (List Nat)}{k:Nat}(h:k<l.length):l.drop k=gT l k::l.drop (k+1):=by
 rw[List.drop_eq_getElem_cons h,gT,List.getD_eq_getElem?_getD,List.getElem?_eq_getElem h]; rfl
end Go.Pl
namespace Go.Proofs.Ytlmjdcbhpffanaa
open Go.Sx Go.Pl
set_option linter.unusedVariables false
set_option maxRecDepth 100000
theorem zNj(all:List Nat)(hb:all.length≤4398046511104)(Q:SV→List HO→Prop)(hq:Q (.x 0 []) [.ext false (.s false 4 all.length (cE all))]):qI Try.prog 36 [.x 0 []] [.ext false (.s false 4 all.length (cE all))] Q:=by
 have h:=qI.gc (r1:=.x 0 []) (h1:=[.ext false (.s false 4 all.length (cE all))]) rfl (qI.frz1 0 rfl (zKz all hb (fun r h'=>r=.o 0∧h'=[.rowc 56 4 all.length (.fn (cE all))]) ⟨rfl,rfl⟩))
 exact qI.mono h fun r h' hh=>by rw[hh.1,hh.2]; exact hq
noncomputable def zGb:List SV→List HO→Option ((SV→List HO→Prop)→Prop)
 | [.x 0 []],[.ext false (.s false 4 n c)]=>some fun Q=>lE n c fun l=>Q (.x 0 []) [.ext false (.s false 4 l.length (cE l))]
 | _,_=>none
theorem zEp(args:List SV)(h:List HO)(tr:(SV→List HO→Prop)→Prop)(Q:SV→List HO→Prop)(hc:zGb args h=some tr)(ht:tr Q):qI Try.prog 36 args h Q:=by
 unfold zGb at hc
 split at hc
 ·simp only[sI] at hc
  subst hc
  obtain⟨l,rfl,he,hb,hv,hq⟩:=ht.h
  exact qI.ac (zNj l hb Q hq) ⟨⟨rfl,rfl,rfl,rfl,he⟩,trivial⟩
 ·cases hc
noncomputable def zSf:Con Try.prog:=K57.add 36 zGb zEp
end Go.Proofs.Ytlmjdcbhpffanaa
/- A table as new memory. -/
namespace Go.Proofs.Ytlmjdcbhpffanaa
open Go.Sx Go.Pl
set_option linter.unusedVariables false
set_option maxRecDepth 100000
theorem tbS(l:List (List Nat))(K:List It→St→Prop)(R:SV→List HO→Prop):W (xwp Try.prog X zSf [] 60 (qO Try.f37 [] [⟨[0,1,0,1,1],[4,3,0],[]⟩]) [] [.at []] ⟨qQ 0 [.x 0 []],[.ext false (.s false 1 l.length (cT l))]⟩ K R)=W (K [.at [0,1,0,1,1],.blk 0,.at [1,1,1]] (St.mk [(4,.v (qA 0)),(3,.o 0),(0,.x 1 [])] [.rowc 44 1 0 (.lit 1 []),.ext false (.s false 1 l.length (cT l))])):=by kernel_rfl
theorem tbR(l ls:List (List Nat))(m k M:Nat)(K:List It→St→Prop)(R:SV→List HO→Prop):W (xwp Try.prog X zSf [] 60 (qO Try.f37 [] [⟨[0,1,0,1,1],[4,3,0],[]⟩]) [] (.at [0,0,1,0,1,1]::.rnd [0,0,1,0,1,1] M::[.blk 0,.at [1,1,1]]) ⟨[(4,.v (.int .i64 (k:Int))),(3,.o 0),(0,.x 1 [])],[.rowc 44 1 m (.fn (cT ls)),.ext false (.s false 1 l.length (cT l))]⟩ K R)=W (bif decide ((↑k:Int)<(↑l.length:Int)) then(∀ M:Mem,(0:Int)≤(↑k:Int)∧(↑k:Int)<(↑l.length:Int))∧(∀ M:Mem,k<List.length l)∧(∀ M:Mem,k<List.length l)∧lE (List.length (gT l k)) (cE (gT l k)) fun(l_1:List Nat)=>(∀ M:Mem,(m+1)*24≤140737488355328∧m+1≤140737488355328)∧K [.rnd [0,0,1,0,1,1] M,.blk 0,.at [1,1,1]] (St.mk [(4,.v (qA (IntKind.wrap .i64 ((↑k:Int)+(1:Int))))),(3,.o 0),(0,.x 1 [])] [.rowc 44 1 (m+1) (.app m (.fn (cT ls)) (.lit 1 [.s false 4 l_1.length (cE l_1)])),.ext false (.s false 1 l.length (cT l))]) else R (.o 0) [.rowc 44 1 m (.fn (cT ls))]):=by kernel_rfl
theorem qZu(l:List (List Nat))(hl:okT l)(Q:SV→List HO→Prop)(hq:Q (.o 0) [.rowc 44 1 l.length (.fn (cT l))]):∀(d k:Nat) (ls:List (List Nat)),k+d=l.length→ls=l.take k →
  FOk Try.prog Try.f37 Q (.rnd [0,0,1,0,1,1] (d+1)::[.blk 0,.at [1,1,1]]) ⟨[(4,.v (.int .i64 (k:Int))),(3,.o 0),(0,.x 1 [])],[.rowc 44 1 k (.fn (cT ls)),.ext false (.s false 1 l.length (cT l))]⟩
 | 0,k,ls,hd,he=>by
  refine FOk.rnd (qE hm 60 ((tbR l ls k k 0 _ _).mpr ⟨?_⟩))
  rw[qF,if_neg (by omega)]
  rw[show k=l.length by omega,List.take_length] at he
  rw[he,show k=l.length by omega]
  exact hq
 | d+1,k,ls,hd,he=>by
  have hk:k<l.length:=by omega
  have h1:=hl.2
  obtain⟨g0,g1⟩:=hl.1 _ (qBt hk)
  have hlen:ls.length=k:=by rw[he,List.length_take]; omega
  refine FOk.rnd (qE hm 60 ((tbR l ls k k (d+1) _ _).mpr ⟨?_⟩))
  rw[qF,if_pos (by omega),qN _ (by omega)]
  refine aI (aI (And.intro (fun _=>by omega) ⟨⟨gT l k,rfl,IsC.refl _ _ _,by omega,g0,And.intro (fun _=>by omega) ?_⟩⟩))
  exact FOk.cv (qZu l hl Q hq d (k+1) (ls++[gT l k]) (by omega) (by rw[he,qZr hk])) ⟨⟨rfl,rfl,rfl,zAw _ hlen⟩,HE.refl _,trivial⟩
theorem bTb:Try.f37.body.isSome=true:=by kernel_rfl
theorem nTb:Nat.ble [SV.x 0 []].length Try.f37.ntmps=true:=by kernel_rfl
theorem zTx(l:List (List Nat))(hl:okT l)(Q:SV→List HO→Prop)(hq:Q (.x 0 []) [.ext false (.s false 1 l.length (cT l))]):qI Try.prog 37 [.x 0 []] [.ext false (.s false 1 l.length (cT l))] Q:=by
 have h0:qI Try.prog 37 [.x 0 []] [.ext false (.s false 1 l.length (cT l))] (fun r h'=>r=.o 0∧h'=[.rowc 44 1 l.length (.fn (cT l))]):=by
  refine qJ Try.func37 bTb ?_ ?_
  ·exact nTb
  refine qE hm 60 ((tbS l _ _).mpr ⟨?_⟩)
  exact FOk.loop (l.length+1) (by kernel_rfl) (FOk.cv (qZu l hl _ ⟨rfl,rfl⟩ l.length 0 [] (by omega) rfl) ⟨⟨rfl,rfl,rfl,fun k hk=>by omega⟩,HE.refl _,trivial⟩)
 have h:=qI.gc (r1:=.x 0 []) (h1:=[.ext false (.s false 1 l.length (cT l))]) rfl (qI.frz1 0 rfl h0)
 exact qI.mono h fun r h' hh=>by rw[hh.1,hh.2]; exact hq
noncomputable def gTb:List SV→List HO→Option ((SV→List HO→Prop)→Prop)
 | [.x 0 []],[.ext false (.s false 1 n c)]=>some fun Q=>lT n c fun l=>Q (.x 0 []) [.ext false (.s false 1 l.length (cT l))]
 | _,_=>none
theorem zPd(args:List SV)(h:List HO)(tr:(SV→List HO→Prop)→Prop)(Q:SV→List HO→Prop)(hc:gTb args h=some tr)(ht:tr Q):qI Try.prog 37 args h Q:=by
 unfold gTb at hc
 split at hc
 ·simp only[sI] at hc
  subst hc
  obtain⟨l,rfl,he,hl,hq⟩:=ht.h
  exact qI.ac (zTx l hl Q hq) ⟨⟨rfl,rfl,rfl,rfl,he⟩,trivial⟩
 ·cases hc
noncomputable def zVv:Con Try.prog:=zSf.add 37 gTb zPd
end Go.Proofs.Ytlmjdcbhpffanaa
/- A sheet as new memory. -/
namespace Go.Proofs.Ytlmjdcbhpffanaa
open Go.Sx Go.Pl
set_option linter.unusedVariables false
set_option maxRecDepth 100000
theorem csS(s:Sht)(K:List It→St→Prop)(R:SV→List HO→Prop):W (xwp Try.prog X zVv [] 60 (qO Try.f21 [] []) [] [.at []] ⟨qQ 0 [.agg [.x 0 [],.x 1 [],.x 2 [],.x 3 []]],[.ext false (.s false 1 s.fx.length (cT s.fx)),.ext false (.s false 1 s.ad.length (cT s.ad)),.ext false (.s false 1 s.is.length (cT s.is)),.ext false (.s false 4 s.cp.length (cP s.cp))]⟩ K R)=W (lT s.1.length (cT s.1) fun(l:List (List Nat))=>lT s.2.length (cT s.2) fun(l_1:List (List Nat))=>lT s.3.length (cT s.3) fun(l_2:List (List Nat))=>(∀ M:Mem,(0+List.length s.4)*32≤140737488355328∧0+List.length s.4≤140737488355328)∧(∀ M:Mem,0+4≤4)∧R (.agg [.x 0 [],.x 1 [],.x 2 [],.o 3]) [.ext false (.s false 1 l.length (cT l)),.ext false (.s false 1 l_1.length (cT l_1)),.ext false (.s false 1 l_2.length (cT l_2)),.rowc 103 4 (0+List.length s.4) (.app 0 (.lit 4 []) (.fn (cP s.4)))]):=by kernel_rfl
theorem bCs:Try.f21.body.isSome=true:=by kernel_rfl
theorem nCs:Nat.ble [(.agg [.x 0 [],.x 1 [],.x 2 [],.x 3 []]:SV)].length Try.f21.ntmps=true:=by kernel_rfl
theorem zVs(s:Sht)(hs:s.ok)(Q:SV→List HO→Prop)(hq:Q (.agg [.x 0 [],.x 1 [],.x 2 [],.x 3 []]) [.ext false (.s false 1 s.fx.length (cT s.fx)),.ext false (.s false 1 s.ad.length (cT s.ad)),.ext false (.s false 1 s.is.length (cT s.is)),.ext false (.s false 4 s.cp.length (cP s.cp))]):qI Try.prog 21 [.agg [.x 0 [],.x 1 [],.x 2 [],.x 3 []]] [.ext false (.s false 1 s.fx.length (cT s.fx)),.ext false (.s false 1 s.ad.length (cT s.ad)),.ext false (.s false 1 s.is.length (cT s.is)),.ext false (.s false 4 s.cp.length (cP s.cp))] Q:=by
 have h0:qI Try.prog 21 [.agg [.x 0 [],.x 1 [],.x 2 [],.x 3 []]] [.ext false (.s false 1 s.fx.length (cT s.fx)),.ext false (.s false 1 s.ad.length (cT s.ad)),.ext false (.s false 1 s.is.length (cT s.is)),.ext false (.s false 4 s.cp.length (cP s.cp))] (fun r h'=>r=.agg [.x 0 [],.x 1 [],.x 2 [],.o 3]∧HEs h' [.ext false (.s false 1 s.fx.length (cT s.fx)),.ext false (.s false 1 s.ad.length (cT s.ad)),.ext false (.s false 1 s.is.length (cT s.is)),.rowc 103 4 s.cp.length (.fn (cP s.cp))]):=by
  refine qJ Try.func21 bCs ?_ ?_
  ·exact nCs
  have h1:=hs.c.2
  refine qE hm 60 ((csS s _ _).mpr ⟨?_⟩)
  refine qLt hs.f (qLt hs.a (qLt hs.i (aI (And.intro (fun _=>by omega) ?_))))
  exact⟨rfl,HE.refl _,HE.refl _,HE.refl _,⟨rfl,rfl,Nat.zero_add _,fun k hk j hj=>xL _ _ _ (Nat.zero_le _)⟩,trivial⟩
 have h1:=qI.frz1 3 (T:=103) (sz:=4) (n:=s.cp.length) (c:=.fn (cP s.cp)) (by kernel_rfl) (qI.eqv h0)
 have h2:=qI.gc (r1:=.agg [.x 0 [],.x 1 [],.x 2 [],.x 3 []]) (h1:=[.ext false (.s false 1 s.fx.length (cT s.fx)),.ext false (.s false 1 s.ad.length (cT s.ad)),.ext false (.s false 1 s.is.length (cT s.is)),.ext false (.s false 4 s.cp.length (cP s.cp))]) (by kernel_rfl) h1
 exact qI.mono h2 fun r h' hh=>by rw[hh.1,hh.2]; exact hq
noncomputable def gCs:List SV→List HO→Option ((SV→List HO→Prop)→Prop)
 | [.agg [.x 0 [],.x 1 [],.x 2 [],.x 3 []]],[.ext false (.s false 1 n0 c0),.ext false (.s false 1 n1 c1),.ext false (.s false 1 n2 c2),.ext false (.s false 4 n3 c3)] =>
  some fun Q=>lS n0 n1 n2 n3 c0 c1 c2 c3 fun s=>Q (.agg [.x 0 [],.x 1 [],.x 2 [],.x 3 []]) [.ext false (.s false 1 s.fx.length (cT s.fx)),.ext false (.s false 1 s.ad.length (cT s.ad)),.ext false (.s false 1 s.is.length (cT s.is)),.ext false (.s false 4 s.cp.length (cP s.cp))]
 | _,_=>none
theorem zOr(args:List SV)(h:List HO)(tr:(SV→List HO→Prop)→Prop)(Q:SV→List HO→Prop)(hc:gCs args h=some tr)(ht:tr Q):qI Try.prog 21 args h Q:=by
 unfold gCs at hc
 split at hc
 ·simp only[sI] at hc
  subst hc
  obtain⟨s,⟨rfl,e0⟩,⟨rfl,e1⟩,⟨rfl,e2⟩,⟨rfl,e3⟩,hs,hq⟩:=ht.h
  exact qI.ac (zVs s hs Q hq) ⟨⟨rfl,rfl,rfl,rfl,e0⟩,⟨rfl,rfl,rfl,rfl,e1⟩,⟨rfl,rfl,rfl,rfl,e2⟩,⟨rfl,rfl,rfl,rfl,e3⟩,trivial⟩
 ·cases hc
noncomputable def K70:Con Try.prog:=zVv.add 21 gCs zOr
end Go.Proofs.Ytlmjdcbhpffanaa
/- A cell's value. -/
namespace Go.Pl
open Go.Sx
def qVw(s:Sht)(kd:Int):List (List Nat):=if kd=2 then s.fx else if kd=3 then s.ad else if kd=4 then s.is else[]
def atT(t:List (List Nat))(co ro:Int):Nat:=if co<0∨ro<0 then 0 else gE (gT t co.toNat) ro.toNat
def atS(s:Sht)(kd co ro:Int):Nat:=atT (qVw s kd) co ro
theorem zEe{t:List (List Nat)}{k:Nat}(h:t.length≤k):gT t k=[]:=by rw[gT,List.getD_eq_getElem?_getD,List.getElem?_eq_none h]; rfl
theorem qWz{t:List Nat}{k:Nat}(h:t.length≤k):gE t k=0:=by rw[gE,List.getD_eq_getElem?_getD,List.getElem?_eq_none h]; rfl
theorem zBs{t:List (List Nat)}{co ro:Int}(h:co<0∨ro<0):atT t co ro=0:=if_pos h
theorem zJq{t:List (List Nat)}{co ro:Int}(h:(t.length:Int)≤co):atT t co ro=0:=by
 rw[atT]; split
 ·rfl
 ·rw[zEe (by omega)]; exact qWz (Nat.zero_le _)
theorem zHp{t:List (List Nat)}{co ro:Int}(h:((gT t co.toNat).length:Int)≤ro):atT t co ro=0:=by
 rw[atT]; split
 ·rfl
 ·exact qWz (by omega)
theorem zOh{t:List (List Nat)}{co ro:Int}(h:¬ co<0)(h2:¬ ro<0):atT t co ro=gE (gT t co.toNat) ro.toNat:=if_neg (by omega)
end Go.Pl
namespace Go.Proofs.Ytlmjdcbhpffanaa
open Go.Sx Go.Pl
set_option linter.unusedVariables false
set_option maxRecDepth 100000
theorem at2(b0 b1 b2 b3:Bool)(s:Sht)(kd co ro:Int)(K:List It→St→Prop)(R:SV→List HO→Prop):W (xwp Try.prog X K70 [] 60 (qO Try.f18 [] []) [.ld (.x 0 [])] [.at []] ⟨qQ 0 [.agg [.x 0 [],.x 1 [],.x 2 [],.x 3 []],.v (.int .i64 kd),.v (.int .i64 co),.v (.int .i64 ro)],[.ext b0 (.s false 1 s.fx.length (cT s.fx)),.ext b1 (.s false 1 s.ad.length (cT s.ad)),.ext b2 (.s false 1 s.is.length (cT s.is)),.ext b3 (.s false 4 s.cp.length (cP s.cp))]⟩ K R)=W ((∀ M:Mem,(match decide ([kd]=[(2:Int)]) with | true=>some (SV.x 0 []) | false=>match decide ([kd]=[(3:Int)]) with | true=>some (SV.x 1 []) | false=>match decide ([kd]=[(4:Int)]) with | true=>some (SV.x 2 []) | false=>none)=some (SV.x 0 []))∧bif decide (co<(0:Int)) then(∀ M:Mem,4≤4)∧R (SV.agg [SV.v (qD 0),SV.v (qD 0),SV.v (qD 0),SV.v (qD 0)]) [] else bif decide ((↑s.1.length:Int)≤co) then(∀ M:Mem,4≤4)∧R (SV.agg [SV.v (qD 0),SV.v (qD 0),SV.v (qD 0),SV.v (qD 0)]) [] else bif decide (ro<(0:Int)) then(∀ M:Mem,4≤4)∧R (SV.agg [SV.v (qD 0),SV.v (qD 0),SV.v (qD 0),SV.v (qD 0)]) [] else(∀ M:Mem,(0:Int)≤co∧co<(↑s.1.length:Int))∧(∀ M:Mem,Int.toNat co<List.length s.1)∧(∀ M:Mem,Int.toNat co<List.length s.1)∧bif decide ((↑(List.length (gT s.1 (Int.toNat co))):Int)≤ro) then(∀ M:Mem,4≤4)∧R (SV.agg [SV.v (qD 0),SV.v (qD 0),SV.v (qD 0),SV.v (qD 0)]) [] else(∀ M:Mem,(0:Int)≤co∧co<(↑s.1.length:Int))∧(∀ M:Mem,Int.toNat co<List.length s.1)∧(∀ M:Mem,Int.toNat co<List.length s.1)∧(∀ M:Mem,(0:Int)≤ro∧ro<(↑(List.length (gT s.1 (Int.toNat co))):Int))∧(∀ M:Mem,Int.toNat co<List.length s.1)∧(∀ M:Mem,Int.toNat ro<List.length (gT s.1 (Int.toNat co)))∧(∀ M:Mem,0+4≤4)∧R ((eS (gE (gT s.1 (Int.toNat co)) (Int.toNat ro)))) []):=by kernel_rfl
theorem at3(b0 b1 b2 b3:Bool)(s:Sht)(kd co ro:Int)(K:List It→St→Prop)(R:SV→List HO→Prop):W (xwp Try.prog X K70 [] 60 (qO Try.f18 [] []) [.ld (.x 1 [])] [.at []] ⟨qQ 0 [.agg [.x 0 [],.x 1 [],.x 2 [],.x 3 []],.v (.int .i64 kd),.v (.int .i64 co),.v (.int .i64 ro)],[.ext b0 (.s false 1 s.fx.length (cT s.fx)),.ext b1 (.s false 1 s.ad.length (cT s.ad)),.ext b2 (.s false 1 s.is.length (cT s.is)),.ext b3 (.s false 4 s.cp.length (cP s.cp))]⟩ K R)=W ((∀ M:Mem,(match decide ([kd]=[(2:Int)]) with | true=>some (SV.x 0 []) | false=>match decide ([kd]=[(3:Int)]) with | true=>some (SV.x 1 []) | false=>match decide ([kd]=[(4:Int)]) with | true=>some (SV.x 2 []) | false=>none)=some (SV.x 1 []))∧bif decide (co<(0:Int)) then(∀ M:Mem,4≤4)∧R (SV.agg [SV.v (qD 0),SV.v (qD 0),SV.v (qD 0),SV.v (qD 0)]) [] else bif decide ((↑s.2.length:Int)≤co) then(∀ M:Mem,4≤4)∧R (SV.agg [SV.v (qD 0),SV.v (qD 0),SV.v (qD 0),SV.v (qD 0)]) [] else bif decide (ro<(0:Int)) then(∀ M:Mem,4≤4)∧R (SV.agg [SV.v (qD 0),SV.v (qD 0),SV.v (qD 0),SV.v (qD 0)]) [] else(∀ M:Mem,(0:Int)≤co∧co<(↑s.2.length:Int))∧(∀ M:Mem,Int.toNat co<List.length s.2)∧(∀ M:Mem,Int.toNat co<List.length s.2)∧bif decide ((↑(List.length (gT s.2 (Int.toNat co))):Int)≤ro) then(∀ M:Mem,4≤4)∧R (SV.agg [SV.v (qD 0),SV.v (qD 0),SV.v (qD 0),SV.v (qD 0)]) [] else(∀ M:Mem,(0:Int)≤co∧co<(↑s.2.length:Int))∧(∀ M:Mem,Int.toNat co<List.length s.2)∧(∀ M:Mem,Int.toNat co<List.length s.2)∧(∀ M:Mem,(0:Int)≤ro∧ro<(↑(List.length (gT s.2 (Int.toNat co))):Int))∧(∀ M:Mem,Int.toNat co<List.length s.2)∧(∀ M:Mem,Int.toNat ro<List.length (gT s.2 (Int.toNat co)))∧(∀ M:Mem,0+4≤4)∧R ((eS (gE (gT s.2 (Int.toNat co)) (Int.toNat ro)))) []):=by kernel_rfl
theorem at4(b0 b1 b2 b3:Bool)(s:Sht)(kd co ro:Int)(K:List It→St→Prop)(R:SV→List HO→Prop):W (xwp Try.prog X K70 [] 60 (qO Try.f18 [] []) [.ld (.x 2 [])] [.at []] ⟨qQ 0 [.agg [.x 0 [],.x 1 [],.x 2 [],.x 3 []],.v (.int .i64 kd),.v (.int .i64 co),.v (.int .i64 ro)],[.ext b0 (.s false 1 s.fx.length (cT s.fx)),.ext b1 (.s false 1 s.ad.length (cT s.ad)),.ext b2 (.s false 1 s.is.length (cT s.is)),.ext b3 (.s false 4 s.cp.length (cP s.cp))]⟩ K R)=W ((∀ M:Mem,(match decide ([kd]=[(2:Int)]) with | true=>some (SV.x 0 []) | false=>match decide ([kd]=[(3:Int)]) with | true=>some (SV.x 1 []) | false=>match decide ([kd]=[(4:Int)]) with | true=>some (SV.x 2 []) | false=>none)=some (SV.x 2 []))∧bif decide (co<(0:Int)) then(∀ M:Mem,4≤4)∧R (SV.agg [SV.v (qD 0),SV.v (qD 0),SV.v (qD 0),SV.v (qD 0)]) [] else bif decide ((↑s.3.length:Int)≤co) then(∀ M:Mem,4≤4)∧R (SV.agg [SV.v (qD 0),SV.v (qD 0),SV.v (qD 0),SV.v (qD 0)]) [] else bif decide (ro<(0:Int)) then(∀ M:Mem,4≤4)∧R (SV.agg [SV.v (qD 0),SV.v (qD 0),SV.v (qD 0),SV.v (qD 0)]) [] else(∀ M:Mem,(0:Int)≤co∧co<(↑s.3.length:Int))∧(∀ M:Mem,Int.toNat co<List.length s.3)∧(∀ M:Mem,Int.toNat co<List.length s.3)∧bif decide ((↑(List.length (gT s.3 (Int.toNat co))):Int)≤ro) then(∀ M:Mem,4≤4)∧R (SV.agg [SV.v (qD 0),SV.v (qD 0),SV.v (qD 0),SV.v (qD 0)]) [] else(∀ M:Mem,(0:Int)≤co∧co<(↑s.3.length:Int))∧(∀ M:Mem,Int.toNat co<List.length s.3)∧(∀ M:Mem,Int.toNat co<List.length s.3)∧(∀ M:Mem,(0:Int)≤ro∧ro<(↑(List.length (gT s.3 (Int.toNat co))):Int))∧(∀ M:Mem,Int.toNat co<List.length s.3)∧(∀ M:Mem,Int.toNat ro<List.length (gT s.3 (Int.toNat co)))∧(∀ M:Mem,0+4≤4)∧R ((eS (gE (gT s.3 (Int.toNat co)) (Int.toNat ro)))) []):=by kernel_rfl
theorem at0(b0 b1 b2 b3:Bool)(s:Sht)(kd co ro:Int)(K:List It→St→Prop)(R:SV→List HO→Prop):W (xwp Try.prog X K70 [] 60 (qO Try.f18 [] []) [.lx []] [.at []] ⟨qQ 0 [.agg [.x 0 [],.x 1 [],.x 2 [],.x 3 []],.v (.int .i64 kd),.v (.int .i64 co),.v (.int .i64 ro)],[.ext b0 (.s false 1 s.fx.length (cT s.fx)),.ext b1 (.s false 1 s.ad.length (cT s.ad)),.ext b2 (.s false 1 s.is.length (cT s.is)),.ext b3 (.s false 4 s.cp.length (cP s.cp))]⟩ K R)=W ((∀ M:Mem,yN [[(2:Int)],[(3:Int)],[(4:Int)]] [kd]=false)∧(∀ M:Mem,4≤4)∧R (.agg [.v (qD 0),.v (qD 0),.v (qD 0),.v (qD 0)]) []):=by kernel_rfl
theorem zYq:Try.f18.body.isSome=true:=by kernel_rfl
theorem zYg(kd co ro:Int):Nat.ble [(.agg [.x 0 [],.x 1 [],.x 2 [],.x 3 []]:SV),.v (.int .i64 kd),.v (.int .i64 co),.v (.int .i64 ro)].length Try.f18.ntmps=true:=by kernel_rfl
theorem zSw(b0 b1 b2 b3:Bool)(s:Sht)(kd co ro:Int)(Q:SV→List HO→Prop)(hq:Q (eS (atS s kd co ro)) []):qI Try.prog 18 [.agg [.x 0 [],.x 1 [],.x 2 [],.x 3 []],.v (.int .i64 kd),.v (.int .i64 co),.v (.int .i64 ro)] [.ext b0 (.s false 1 s.fx.length (cT s.fx)),.ext b1 (.s false 1 s.ad.length (cT s.ad)),.ext b2 (.s false 1 s.is.length (cT s.is)),.ext b3 (.s false 4 s.cp.length (cP s.cp))] Q:=by
 refine qJ Try.func18 zYq ?_ ?_
 ·exact zYg kd co ro
 rw[atS] at hq
 have fin:∀ t:List (List Nat),Q (eS (atT t co ro)) []→(bif decide (co<(0:Int)) then(∀(M:Mem),4≤4)∧Q (.agg [.v (qD 0),.v (qD 0),.v (qD 0),.v (qD 0)]) [] else bif decide ((t.length:Int)≤co) then(∀(M:Mem),4≤4)∧Q (.agg [.v (qD 0),.v (qD 0),.v (qD 0),.v (qD 0)]) [] else bif decide (ro<(0:Int)) then(∀(M:Mem),4≤4)∧Q (.agg [.v (qD 0),.v (qD 0),.v (qD 0),.v (qD 0)]) [] else(∀(M:Mem),(0:Int)≤co∧co<(t.length:Int))∧(∀(M:Mem),Int.toNat co<t.length)∧(∀(M:Mem),Int.toNat co<t.length)∧bif decide (((gT t (Int.toNat co)).length:Int)≤ro) then(∀(M:Mem),4≤4)∧Q (.agg [.v (qD 0),.v (qD 0),.v (qD 0),.v (qD 0)]) [] else(∀(M:Mem),(0:Int)≤co∧co<(t.length:Int))∧(∀(M:Mem),Int.toNat co<t.length)∧(∀(M:Mem),Int.toNat co<t.length)∧(∀(M:Mem),(0:Int)≤ro∧ro<((gT t (Int.toNat co)).length:Int))∧(∀(M:Mem),Int.toNat co<t.length)∧(∀(M:Mem),Int.toNat ro<(gT t (Int.toNat co)).length)∧(∀(M:Mem),0+4≤4)∧Q (eS (gE (gT t (Int.toNat co)) (Int.toNat ro))) []):=by
  intro t hq
  simp only[qF,← qEy]
  refine qH (fun h=>?_) (fun h=>qH (fun h2=>?_) (fun h2=>qH (fun h3=>?_) (fun h3=>?_)))
  ·rw[zBs (.inl h)] at hq; exact⟨fun _=>by omega,hq⟩
  ·rw[zJq h2] at hq; exact⟨fun _=>by omega,hq⟩
  ·rw[zBs (.inr h3)] at hq; exact⟨fun _=>by omega,hq⟩
  refine aI (aI (aI (qH (fun h4=>?_) (fun h4=>?_))))
  ·rw[zHp h4] at hq; exact⟨fun _=>by omega,hq⟩
  ·rw[zOh h h3] at hq
   exact aI (aI (aI (aI (aI (aI (And.intro (fun _=>by omega) hq))))))
 by_cases h2:kd=2
 ·subst h2
  refine qE hm 60 ((at2 b0 b1 b2 b3 s 2 co ro _ _).mpr ⟨And.intro (fun _=>rfl) ?_⟩)
  rw[show qVw s 2=s.fx from rfl] at hq
  exact fin s.fx hq
 by_cases h3:kd=3
 ·subst h3
  refine qE hm 60 ((at3 b0 b1 b2 b3 s 3 co ro _ _).mpr ⟨And.intro (fun _=>rfl) ?_⟩)
  rw[show qVw s 3=s.ad from rfl] at hq
  exact fin s.ad hq
 by_cases h4:kd=4
 ·subst h4
  refine qE hm 60 ((at4 b0 b1 b2 b3 s 4 co ro _ _).mpr ⟨And.intro (fun _=>rfl) ?_⟩)
  rw[show qVw s 4=s.is from rfl] at hq
  exact fin s.is hq
 refine qE hm 60 ((at0 b0 b1 b2 b3 s kd co ro _ _).mpr ⟨And.intro (fun _=>by simp [yN,h2,h3,h4]) (And.intro (fun _=>by omega) ?_)⟩)
 have e:atT [] co ro=0:=by
  rw[atT]; split
  ·rfl
  ·exact qWz (Nat.zero_le _)
 rw[qVw,if_neg h2,if_neg h3,if_neg h4,e] at hq
 rw[← qEy]; exact hq
noncomputable def zNn:List SV→List HO→Option ((SV→List HO→Prop)→Prop)
 | [.agg [.x 0 [],.x 1 [],.x 2 [],.x 3 []],.v (.int .i64 kd),.v (.int .i64 co),.v (.int .i64 ro)],[.ext _ (.s false 1 n0 c0),.ext _ (.s false 1 n1 c1),.ext _ (.s false 1 n2 c2),.ext _ (.s false 4 n3 c3)] =>
  some fun Q=>lS n0 n1 n2 n3 c0 c1 c2 c3 fun s=>Q (eS (atS s kd co ro)) []
 | _,_=>none
theorem zHf(args:List SV)(h:List HO)(tr:(SV→List HO→Prop)→Prop)(Q:SV→List HO→Prop)(hc:zNn args h=some tr)(ht:tr Q):qI Try.prog 18 args h Q:=by
 unfold zNn at hc
 split at hc
 ·simp only[sI] at hc
  subst hc
  obtain⟨s,⟨rfl,e0⟩,⟨rfl,e1⟩,⟨rfl,e2⟩,⟨rfl,e3⟩,hs,hq⟩:=ht.h
  exact qI.ac (zSw _ _ _ _ s _ _ _ Q hq) ⟨⟨rfl,rfl,rfl,rfl,e0⟩,⟨rfl,rfl,rfl,rfl,e1⟩,⟨rfl,rfl,rfl,rfl,e2⟩,⟨rfl,rfl,rfl,rfl,e3⟩,trivial⟩
 ·cases hc
noncomputable def K71:Con Try.prog:=K70.add 18 zNn zHf
end Go.Proofs.Ytlmjdcbhpffanaa
/- Columns that are too long. -/
namespace Go.Pl
open Go.Sx
def uC(u:Int):Nat→Nat→qB:=fun _ _=>.v (.int .i64 u)
structure lU (ck : Nat → Nat → qB) (k : Int → Prop) : Prop where
  h : ∃ u : Int, IsC 1 1 ck (uC u) ∧ k u
theorem zVo(u:Int){k:Int→Prop}(h:k u):lU (lc 1 [.v (qA u)]) k:=⟨⟨u,fun i hi j hj=>by
 have:i=0:=by omega
 have:j=0:=by omega
 subst i j
 rfl,h⟩⟩
def wK(u:Int)(x:List Nat):Bool:=decide (u<(x.length:Int))
theorem qKz{p:List Nat→Bool}{l:List (List Nat)}{k:Nat}(h:k<l.length):qX p k (l.drop k)=if p (gT l k) then(k:Int) else qX p (k+1) (l.drop (k+1)):=by
 rw[List.drop_eq_getElem_cons h,qX,gT,List.getD_eq_getElem?_getD,List.getElem?_eq_getElem h]; rfl
theorem qYr{p:Int×Int×Int×Int→Bool}{l:List (Int×Int×Int×Int)}{k:Nat}(h:k<l.length):qX p k (l.drop k)=if p (gP l k) then(k:Int) else qX p (k+1) (l.drop (k+1)):=by
 rw[List.drop_eq_getElem_cons h,qX,gP,List.getD_eq_getElem?_getD,List.getElem?_eq_getElem h]; rfl
end Go.Pl
namespace Go.Proofs.Ytlmjdcbhpffanaa
open Go.Sx Go.Pl
set_option linter.unusedVariables false
set_option maxRecDepth 100000
end Go.Proofs.Ytlmjdcbhpffanaa
/- Columns that are too long: the first. -/
namespace Go.Proofs.Ytlmjdcbhpffanaa
open Go.Sx Go.Pl
set_option linter.unusedVariables false
set_option maxRecDepth 100000
theorem zWr(b:Bool)(l:List (List Nat))(u:Int)(K:List It→St→Prop)(R:SV→List HO→Prop):W (xwp Try.prog X K71 [(43,[])] 60 (qO Try.f68 [] [⟨[0,1,0,1],[8,7,0,1],[]⟩]) [] [.at []] ⟨qQ 0 [.x 0 [],.fn (.func 43) [] [.x 1 []]],[.ext b (.s false 1 l.length (cT l)),.ext true (.s true 1 1 (uC u))]⟩ K R)=W (K [.at [0,1,0,1],.blk 0,.at [1,1]] (St.mk [(8,.v (qA 0)),(7,.v (qA (↑l.length:Int))),(0,.x 0 []),(1,SV.fn (Fn.func 43) [] [.x 1 []])] [.ext b (.s false 1 l.length (cT l)),.ext true (.s true 1 1 (uC u))])):=by kernel_rfl
theorem zWh(b:Bool)(l:List (List Nat))(u:Int)(k M:Nat)(K:List It→St→Prop)(R:SV→List HO→Prop):W (xwp Try.prog X K71 [(43,[])] 60 (qO Try.f68 [] [⟨[0,1,0,1],[8,7,0,1],[]⟩]) [] (.at [0,0,1,0,1]::.rnd [0,0,1,0,1] M::[.blk 0,.at [1,1]]) ⟨[(8,.v (.int .i64 (k:Int))),(7,.v (.int .i64 (l.length:Int))),(0,.x 0 []),(1,.fn (.func 43) [] [.x 1 []])],[.ext b (.s false 1 l.length (cT l)),.ext true (.s true 1 1 (uC u))]⟩ K R)=W (bif decide ((↑k:Int)<(↑l.length:Int)) then(∀ M:Mem,(0:Int)≤(↑k:Int)∧(↑k:Int)<(↑l.length:Int))∧(∀ M:Mem,k<List.length l)∧(∀ M:Mem,k<List.length l)∧(∀ M:Mem,0<1)∧bif decide (u<(↑(List.length (gT l k)):Int)) then R (.v (qA (↑k:Int))) [] else K [.rnd [0,0,1,0,1] M,.blk 0,.at [1,1]] (St.mk [(8,.v (qA (IntKind.wrap .i64 ((↑k:Int)+(1:Int))))),(7,.v (qA (↑l.length:Int))),(0,.x 0 []),(1,SV.fn (Fn.func 43) [] [.x 1 []])] [.ext b (.s false 1 l.length (cT l)),.ext true (.s true 1 1 (uC u))]) else R (.v (qA (-1))) []):=by kernel_rfl
theorem qVx(b:Bool)(l:List (List Nat))(u:Int)(hb:l.length≤17592186043904)(Q:SV→List HO→Prop):∀(d k:Nat),k+d=l.length→Q (.v (.int .i64 (qX (wK u) k (l.drop k)))) [] →
  FOk Try.prog Try.f68 Q (.rnd [0,0,1,0,1] (d+1)::[.blk 0,.at [1,1]]) ⟨[(8,.v (.int .i64 (k:Int))),(7,.v (.int .i64 (l.length:Int))),(0,.x 0 []),(1,.fn (.func 43) [] [.x 1 []])],[.ext b (.s false 1 l.length (cT l)),.ext true (.s true 1 1 (uC u))]⟩
 | 0,k,hd,hq=>by
  refine FOk.rnd (qE hm 60 ((zWh b l u k 0 _ _).mpr ⟨?_⟩))
  rw[qF,if_neg (by omega)]
  rw[show k=l.length by omega,List.drop_length] at hq
  exact hq
 | d+1,k,hd,hq=>by
  have hk:k<l.length:=by omega
  refine FOk.rnd (qE hm 60 ((zWh b l u k (d+1) _ _).mpr ⟨?_⟩))
  rw[qF,if_pos (by omega),qN _ (by omega)]
  rw[qKz hk,wK] at hq
  simp only[qF,forall_const]
  repeat' (first | refine And.intro (by omega) ?_ | refine qH (fun h=>?_) (fun h=>?_))
  ·rw[decide_eq_true h] at hq; exact hq
  ·rw[decide_eq_false h] at hq; exact qVx b l u hb Q d (k+1) (by omega) hq
theorem jAs:Try.f68.body.isSome=true:=by kernel_rfl
theorem zYx:Nat.ble [SV.x 0 [],.fn (.func 43) [] [.x 1 []]].length Try.f68.ntmps=true:=by kernel_rfl
theorem zOw(b:Bool)(l:List (List Nat))(u:Int)(hb:l.length≤17592186043904)(Q:SV→List HO→Prop)(hq:Q (.v (.int .i64 (qX (wK u) 0 l))) []):qI Try.prog 68 [.x 0 [],.fn (.func 43) [] [.x 1 []]] [.ext b (.s false 1 l.length (cT l)),.ext true (.s true 1 1 (uC u))] Q:=by
 refine qJ Try.func68 jAs ?_ ?_
 ·exact zYx
 refine qE hm 60 ((zWr b l u _ _).mpr ⟨?_⟩)
 exact FOk.loop (l.length+1) (by kernel_rfl) (qVx b l u hb Q l.length 0 (by omega) hq)
noncomputable def zMu:List SV→List HO→Option ((SV→List HO→Prop)→Prop)
 | [.x 0 [],.fn (.func 43) [] [.x 1 []]],[.ext _ (.s false 1 n c),.ext true (.s true 1 1 ck)]=>some fun Q=>lT n c fun l=>lU ck fun u=>Q (.v (.int .i64 (qX (wK u) 0 l))) []
 | _,_=>none
theorem zJa(args:List SV)(h:List HO)(tr:(SV→List HO→Prop)→Prop)(Q:SV→List HO→Prop)(hc:zMu args h=some tr)(ht:tr Q):qI Try.prog 68 args h Q:=by
 unfold zMu at hc
 split at hc
 ·simp only[sI] at hc
  subst hc
  obtain⟨l,rfl,he,hb,hk⟩:=ht.h
  obtain⟨u,e1,hq⟩:=hk.h
  have:=hb.2
  exact qI.ac (zOw _ l u (by omega) Q hq) ⟨⟨rfl,rfl,rfl,rfl,he⟩,⟨rfl,rfl,rfl,rfl,e1⟩,trivial⟩
 ·cases hc
noncomputable def K72:Con Try.prog:=K71.add 68 zMu zJa
end Go.Proofs.Ytlmjdcbhpffanaa
/- Is a cell's place wrong? With what the function has caught. -/
namespace Go.Pl
open Go.Sx
def qCm(n:Nat)(u x y:Int):Bool:=decide (x<0∨(n:Int)≤x∨y<0∨u≤y)
def qXw(n:Nat)(u:Int)(x:Int×Int×Int×Int):Bool:=qCm n u x.1 x.2.1||qCm n u x.2.2.1 x.2.2.2
end Go.Pl
namespace Go.Proofs.Ytlmjdcbhpffanaa
open Go.Sx Go.Pl
set_option linter.unusedVariables false
set_option maxRecDepth 100000
theorem bdS(fx ad ins u:Int)(n0 n1 n2 n3:Nat)(c0 c1 c2 c3:Nat→Nat→qB)(x y:Int)(K:List It→St→Prop)(R:SV→List HO→Prop):W (xwp Try.prog X K72 [] 60 (fxM 6 Try.f46 [] []) [] [.at []] ⟨qQ 0 [.agg [.v (.int .i64 x),.v (.int .i64 y)],.p 0 0,.p 1 0],[.cells [.v (.int .i64 fx),.v (.int .i64 ad),.v (.int .i64 ins),.x 2 [],.x 3 [],.x 4 [],.x 5 []] 27,.cells [.v (.int .i64 u)] 3,.ext false (.s false 7 n0 c0),.ext false (.s false 1 n1 c1),.ext false (.s false 2 n2 c2),.ext false (.s false 2 n3 c3)]⟩ K R)=W (bif decide (x<(0:Int)) then R (.v (.bool true)) [.cells [.v (qA fx),.v (qA ad),.v (qA ins),.x 2 [],.x 3 [],.x 4 [],.x 5 []] 27,.cells [.v (qA u)] 3,.ext false (.s false 7 n0 c0),.ext false (.s false 1 n1 c1),.ext false (.s false 2 n2 c2),.ext false (.s false 2 n3 c3)] else bif decide ((↑n3:Int)≤x) then R (.v (.bool true)) [.cells [.v (qA fx),.v (qA ad),.v (qA ins),.x 2 [],.x 3 [],.x 4 [],.x 5 []] 27,.cells [.v (qA u)] 3,.ext false (.s false 7 n0 c0),.ext false (.s false 1 n1 c1),.ext false (.s false 2 n2 c2),.ext false (.s false 2 n3 c3)] else bif decide (y<(0:Int)) then R (.v (.bool true)) [.cells [.v (qA fx),.v (qA ad),.v (qA ins),.x 2 [],.x 3 [],.x 4 [],.x 5 []] 27,.cells [.v (qA u)] 3,.ext false (.s false 7 n0 c0),.ext false (.s false 1 n1 c1),.ext false (.s false 2 n2 c2),.ext false (.s false 2 n3 c3)] else R (.v (.bool (decide (u≤y)))) [.cells [.v (qA fx),.v (qA ad),.v (qA ins),.x 2 [],.x 3 [],.x 4 [],.x 5 []] 27,.cells [.v (qA u)] 3,.ext false (.s false 7 n0 c0),.ext false (.s false 1 n1 c1),.ext false (.s false 2 n2 c2),.ext false (.s false 2 n3 c3)]):=by kernel_rfl
theorem bBd:Try.f46.body.isSome=true:=by kernel_rfl
theorem nBd(x y:Int):Nat.ble ([.agg [.v (.int .i64 x),.v (.int .i64 y)],.p 0 0,.p 1 0]:List SV).length Try.f46.ntmps=true:=by kernel_rfl
theorem zUf(fx ad ins u:Int)(n0 n1 n2 n3:Nat)(c0 c1 c2 c3:Nat→Nat→qB)(x y:Int)(Q:SV→List HO→Prop)(hq:Q (.v (.bool (qCm n3 u x y))) [.cells [.v (.int .i64 fx),.v (.int .i64 ad),.v (.int .i64 ins),.x 2 [],.x 3 [],.x 4 [],.x 5 []] 27,.cells [.v (.int .i64 u)] 3,.ext false (.s false 7 n0 c0),.ext false (.s false 1 n1 c1),.ext false (.s false 2 n2 c2),.ext false (.s false 2 n3 c3)]):zL Try.prog 6 46 [.agg [.v (.int .i64 x),.v (.int .i64 y)],.p 0 0,.p 1 0] [.cells [.v (.int .i64 fx),.v (.int .i64 ad),.v (.int .i64 ins),.x 2 [],.x 3 [],.x 4 [],.x 5 []] 27,.cells [.v (.int .i64 u)] 3,.ext false (.s false 7 n0 c0),.ext false (.s false 1 n1 c1),.ext false (.s false 2 n2 c2),.ext false (.s false 2 n3 c3)] Q:=by
 refine qJ Try.func46 bBd ?_ ?_
 ·exact nBd x y
 refine qR hm 60 ((bdS fx ad ins u n0 n1 n2 n3 c0 c1 c2 c3 x y _ _).mpr ⟨?_⟩)
 simp only[qF]
 refine qH (fun h=>?_) (fun h=>qH (fun h2=>?_) (fun h2=>qH (fun h3=>?_) (fun h3=>?_)))
 ·rw[qCm,decide_eq_true (.inl h)] at hq; exact hq
 ·rw[qCm,decide_eq_true (.inr (.inl h2))] at hq; exact hq
 ·rw[qCm,decide_eq_true (.inr (.inr (.inl h3)))] at hq; exact hq
 ·rw[show decide (u≤y)=qCm n3 u x y from decide_eq_decide.2 (by omega)]; exact hq
noncomputable def gBd:List SV→List HO→Option ((SV→List HO→Prop)→Prop)
 | [.agg [.v (.int .i64 x),.v (.int .i64 y)],.p 0 0,.p 1 0],[.cells [.v (.int .i64 fx),.v (.int .i64 ad),.v (.int .i64 ins),.x 2 [],.x 3 [],.x 4 [],.x 5 []] 27,.cells [.v (.int .i64 u)] 3,.ext false (.s false 7 n0 c0),.ext false (.s false 1 n1 c1),.ext false (.s false 2 n2 c2),.ext false (.s false 2 n3 c3)]=>some fun Q=>Q (.v (.bool (qCm n3 u x y))) [.cells [.v (.int .i64 fx),.v (.int .i64 ad),.v (.int .i64 ins),.x 2 [],.x 3 [],.x 4 [],.x 5 []] 27,.cells [.v (.int .i64 u)] 3,.ext false (.s false 7 n0 c0),.ext false (.s false 1 n1 c1),.ext false (.s false 2 n2 c2),.ext false (.s false 2 n3 c3)]
 | _,_=>none
theorem zRh(args:List SV)(h:List HO)(tr:(SV→List HO→Prop)→Prop)(Q:SV→List HO→Prop)(hc:gBd args h=some tr)(ht:tr Q):zL Try.prog h.length 46 args h Q:=by
 unfold gBd at hc
 split at hc
 ·simp only[sI] at hc
  subst hc
  exact zUf _ _ _ _ _ _ _ _ _ _ _ _ _ _ Q ht
 ·cases hc
noncomputable def zSy:Con Try.prog:=K72.addW 46 gBd zRh
end Go.Proofs.Ytlmjdcbhpffanaa
/- Is a copy wrong? -/
namespace Go.Proofs.Ytlmjdcbhpffanaa
open Go.Sx Go.Pl
set_option linter.unusedVariables false
set_option maxRecDepth 100000
theorem jAj(fx ad ins u:Int)(n0 n1 n2 n3:Nat)(c0 c1 c2 c3:Nat→Nat→qB)(x y z t:Int)(K:List It→St→Prop)(R:SV→List HO→Prop):W (xwp Try.prog X zSy [] 60 (fxM 7 Try.f48 [] []) [] [.at []] ⟨qQ 0 [.agg [.v (.int .i64 x),.v (.int .i64 y),.v (.int .i64 z),.v (.int .i64 t)],.p 0 0],[.cells [.fn (.func 46) [] [.p 1 0,.p 2 0]] 109,.cells [.v (.int .i64 fx),.v (.int .i64 ad),.v (.int .i64 ins),.x 3 [],.x 4 [],.x 5 [],.x 6 []] 27,.cells [.v (.int .i64 u)] 3,.ext false (.s false 7 n0 c0),.ext false (.s false 1 n1 c1),.ext false (.s false 2 n2 c2),.ext false (.s false 2 n3 c3)]⟩ K R)=W (bif qCm n3 u x y then R (.v (.bool true)) [.cells [SV.fn (Fn.func 46) [] [.p 1 0,.p 2 0]] 109,.cells [.v (qA fx),.v (qA ad),.v (qA ins),.x 3 [],.x 4 [],.x 5 [],.x 6 []] 27,.cells [.v (qA u)] 3,.ext false (.s false 7 n0 c0),.ext false (.s false 1 n1 c1),.ext false (.s false 2 n2 c2),.ext false (.s false 2 n3 c3)] else R (.v (.bool (qCm n3 u z t))) [.cells [SV.fn (Fn.func 46) [] [.p 1 0,.p 2 0]] 109,.cells [.v (qA fx),.v (qA ad),.v (qA ins),.x 3 [],.x 4 [],.x 5 [],.x 6 []] 27,.cells [.v (qA u)] 3,.ext false (.s false 7 n0 c0),.ext false (.s false 1 n1 c1),.ext false (.s false 2 n2 c2),.ext false (.s false 2 n3 c3)]):=by kernel_rfl
theorem zWy:Try.f48.body.isSome=true:=by kernel_rfl
theorem zXi(x y z t:Int):Nat.ble ([.agg [.v (.int .i64 x),.v (.int .i64 y),.v (.int .i64 z),.v (.int .i64 t)],.p 0 0]:List SV).length Try.f48.ntmps=true:=by kernel_rfl
theorem zMb(fx ad ins u:Int)(n0 n1 n2 n3:Nat)(c0 c1 c2 c3:Nat→Nat→qB)(x y z t:Int)(Q:SV→List HO→Prop)(hq:Q (.v (.bool (qCm n3 u x y||qCm n3 u z t))) [.cells [.fn (.func 46) [] [.p 1 0,.p 2 0]] 109,.cells [.v (.int .i64 fx),.v (.int .i64 ad),.v (.int .i64 ins),.x 3 [],.x 4 [],.x 5 [],.x 6 []] 27,.cells [.v (.int .i64 u)] 3,.ext false (.s false 7 n0 c0),.ext false (.s false 1 n1 c1),.ext false (.s false 2 n2 c2),.ext false (.s false 2 n3 c3)]):zL Try.prog 7 48 [.agg [.v (.int .i64 x),.v (.int .i64 y),.v (.int .i64 z),.v (.int .i64 t)],.p 0 0] [.cells [.fn (.func 46) [] [.p 1 0,.p 2 0]] 109,.cells [.v (.int .i64 fx),.v (.int .i64 ad),.v (.int .i64 ins),.x 3 [],.x 4 [],.x 5 [],.x 6 []] 27,.cells [.v (.int .i64 u)] 3,.ext false (.s false 7 n0 c0),.ext false (.s false 1 n1 c1),.ext false (.s false 2 n2 c2),.ext false (.s false 2 n3 c3)] Q:=by
 refine qJ Try.func48 zWy ?_ ?_
 ·exact zXi x y z t
 refine qR hm 60 ((jAj fx ad ins u n0 n1 n2 n3 c0 c1 c2 c3 x y z t _ _).mpr ⟨?_⟩)
 refine qK (fun h=>?_) (fun h=>?_)
 ·rw[h] at hq; exact hq
 ·rw[h] at hq; exact hq
noncomputable def zQb:List SV→List HO→Option ((SV→List HO→Prop)→Prop)
 | [.agg [.v (.int .i64 x),.v (.int .i64 y),.v (.int .i64 z),.v (.int .i64 t)],.p 0 0],[.cells [.fn (.func 46) [] [.p 1 0,.p 2 0]] 109,.cells [.v (.int .i64 fx),.v (.int .i64 ad),.v (.int .i64 ins),.x 3 [],.x 4 [],.x 5 [],.x 6 []] 27,.cells [.v (.int .i64 u)] 3,.ext false (.s false 7 n0 c0),.ext false (.s false 1 n1 c1),.ext false (.s false 2 n2 c2),.ext false (.s false 2 n3 c3)]=>some fun Q=>Q (.v (.bool (qCm n3 u x y||qCm n3 u z t))) [.cells [.fn (.func 46) [] [.p 1 0,.p 2 0]] 109,.cells [.v (.int .i64 fx),.v (.int .i64 ad),.v (.int .i64 ins),.x 3 [],.x 4 [],.x 5 [],.x 6 []] 27,.cells [.v (.int .i64 u)] 3,.ext false (.s false 7 n0 c0),.ext false (.s false 1 n1 c1),.ext false (.s false 2 n2 c2),.ext false (.s false 2 n3 c3)]
 | _,_=>none
theorem zHh(args:List SV)(h:List HO)(tr:(SV→List HO→Prop)→Prop)(Q:SV→List HO→Prop)(hc:zQb args h=some tr)(ht:tr Q):zL Try.prog h.length 48 args h Q:=by
 unfold zQb at hc
 split at hc
 ·simp only[sI] at hc
  subst hc
  exact zMb _ _ _ _ _ _ _ _ _ _ _ _ _ _ _ _ Q ht
 ·cases hc
noncomputable def zQz:Con Try.prog:=zSy.addW 48 zQb zHh
end Go.Proofs.Ytlmjdcbhpffanaa
/- The first copy that is wrong. -/
namespace Go.Pl
open Go.Sx
structure lP (n : Nat) (c : Nat → Nat → qB) (k : List (Int × Int × Int × Int) → Prop) : Prop where
  h : ∃ l : List (Int × Int × Int × Int), n = l.length ∧ IsC n 4 c (cP l) ∧ l.length ≤ 17592186043904 ∧ k l
theorem zUs(l:List (Int×Int×Int×Int))(h:l.length≤17592186043904){k:List (Int×Int×Int×Int)→Prop}(hk:k l):lP l.length (cP l) k:=⟨⟨l,rfl,IsC.refl _ _ _,h,hk⟩⟩
end Go.Pl
namespace Go.Proofs.Ytlmjdcbhpffanaa
open Go.Sx Go.Pl
set_option linter.unusedVariables false
set_option maxRecDepth 100000
theorem zWm(fx ad ins u:Int)(n0 n1 n2 n3:Nat)(c0 c1 c2 c3:Nat→Nat→qB)(l:List (Int×Int×Int×Int))(K:List It→St→Prop)(R:SV→List HO→Prop):W (xwp Try.prog X zQz [] 60 (fxM 8 Try.f69 [] [⟨[0,1,0,1],[8,7,0,1],[]⟩]) [] [.at []] ⟨qQ 0 [.x 0 [],.fn (.func 48) [] [.p 1 0]],[.ext false (.s false 4 l.length (cP l)),.cells [.fn (.func 46) [] [.p 2 0,.p 3 0]] 109,.cells [.v (.int .i64 fx),.v (.int .i64 ad),.v (.int .i64 ins),.x 4 [],.x 5 [],.x 6 [],.x 7 []] 27,.cells [.v (.int .i64 u)] 3,.ext false (.s false 7 n0 c0),.ext false (.s false 1 n1 c1),.ext false (.s false 2 n2 c2),.ext false (.s false 2 n3 c3)]⟩ K R)=W (K [.at [0,1,0,1],.blk 0,.at [1,1]] (St.mk [(8,.v (qA 0)),(7,.v (qA (↑l.length:Int))),(0,.x 0 []),(1,SV.fn (Fn.func 48) [] [.p 1 0])] [.ext false (.s false 4 l.length (cP l)),.cells [SV.fn (Fn.func 46) [] [.p 2 0,.p 3 0]] 109,.cells [.v (qA fx),.v (qA ad),.v (qA ins),.x 4 [],.x 5 [],.x 6 [],.x 7 []] 27,.cells [.v (qA u)] 3,.ext false (.s false 7 n0 c0),.ext false (.s false 1 n1 c1),.ext false (.s false 2 n2 c2),.ext false (.s false 2 n3 c3)])):=by kernel_rfl
theorem zVf(fx ad ins u:Int)(n0 n1 n2 n3:Nat)(c0 c1 c2 c3:Nat→Nat→qB)(l:List (Int×Int×Int×Int))(k M:Nat)(K:List It→St→Prop)(R:SV→List HO→Prop):W (xwp Try.prog X zQz [] 60 (fxM 8 Try.f69 [] [⟨[0,1,0,1],[8,7,0,1],[]⟩]) [] (.at [0,0,1,0,1]::.rnd [0,0,1,0,1] M::[.blk 0,.at [1,1]]) ⟨[(8,.v (.int .i64 (k:Int))),(7,.v (.int .i64 (l.length:Int))),(0,.x 0 []),(1,.fn (.func 48) [] [.p 1 0])],[.ext false (.s false 4 l.length (cP l)),.cells [.fn (.func 46) [] [.p 2 0,.p 3 0]] 109,.cells [.v (.int .i64 fx),.v (.int .i64 ad),.v (.int .i64 ins),.x 4 [],.x 5 [],.x 6 [],.x 7 []] 27,.cells [.v (.int .i64 u)] 3,.ext false (.s false 7 n0 c0),.ext false (.s false 1 n1 c1),.ext false (.s false 2 n2 c2),.ext false (.s false 2 n3 c3)]⟩ K R)=W (bif decide ((↑k:Int)<(↑l.length:Int)) then(∀ M:Mem,(0:Int)≤(↑k:Int)∧(↑k:Int)<(↑l.length:Int))∧(∀ M:Mem,k<List.length l)∧bif qCm n3 u (gP l k).1 (gP l k).2.1||qCm n3 u (gP l k).2.2.1 (gP l k).2.2.2 then R (.v (qA (↑k:Int))) [.ext false (.s false 4 l.length (cP l)),.cells [SV.fn (Fn.func 46) [] [.p 2 0,.p 3 0]] 109,.cells [.v (qA fx),.v (qA ad),.v (qA ins),.x 4 [],.x 5 [],.x 6 [],.x 7 []] 27,.cells [.v (qA u)] 3,.ext false (.s false 7 n0 c0),.ext false (.s false 1 n1 c1),.ext false (.s false 2 n2 c2),.ext false (.s false 2 n3 c3)] else K [.rnd [0,0,1,0,1] M,.blk 0,.at [1,1]] (St.mk [(8,.v (qA (IntKind.wrap .i64 ((↑k:Int)+(1:Int))))),(7,.v (qA (↑l.length:Int))),(0,.x 0 []),(1,SV.fn (Fn.func 48) [] [.p 1 0])] [.ext false (.s false 4 l.length (cP l)),.cells [SV.fn (Fn.func 46) [] [.p 2 0,.p 3 0]] 109,.cells [.v (qA fx),.v (qA ad),.v (qA ins),.x 4 [],.x 5 [],.x 6 [],.x 7 []] 27,.cells [.v (qA u)] 3,.ext false (.s false 7 n0 c0),.ext false (.s false 1 n1 c1),.ext false (.s false 2 n2 c2),.ext false (.s false 2 n3 c3)]) else R (.v (qA (-1))) [.ext false (.s false 4 l.length (cP l)),.cells [SV.fn (Fn.func 46) [] [.p 2 0,.p 3 0]] 109,.cells [.v (qA fx),.v (qA ad),.v (qA ins),.x 4 [],.x 5 [],.x 6 [],.x 7 []] 27,.cells [.v (qA u)] 3,.ext false (.s false 7 n0 c0),.ext false (.s false 1 n1 c1),.ext false (.s false 2 n2 c2),.ext false (.s false 2 n3 c3)]):=by kernel_rfl
theorem qVu(fx ad ins u:Int)(n0 n1 n2 n3:Nat)(c0 c1 c2 c3:Nat→Nat→qB)(l:List (Int×Int×Int×Int))(hl:l.length≤17592186043904)(Q:SV→List HO→Prop):∀(d k:Nat),k+d=l.length→Q (.v (.int .i64 (qX (qXw n3 u) k (l.drop k)))) [.ext false (.s false 4 l.length (cP l)),.cells [.fn (.func 46) [] [.p 2 0,.p 3 0]] 109,.cells [.v (.int .i64 fx),.v (.int .i64 ad),.v (.int .i64 ins),.x 4 [],.x 5 [],.x 6 [],.x 7 []] 27,.cells [.v (.int .i64 u)] 3,.ext false (.s false 7 n0 c0),.ext false (.s false 1 n1 c1),.ext false (.s false 2 n2 c2),.ext false (.s false 2 n3 c3)] →
  zZ Try.prog 8 Try.f69 Q (.rnd [0,0,1,0,1] (d+1)::[.blk 0,.at [1,1]]) ⟨[(8,.v (.int .i64 (k:Int))),(7,.v (.int .i64 (l.length:Int))),(0,.x 0 []),(1,.fn (.func 48) [] [.p 1 0])],[.ext false (.s false 4 l.length (cP l)),.cells [.fn (.func 46) [] [.p 2 0,.p 3 0]] 109,.cells [.v (.int .i64 fx),.v (.int .i64 ad),.v (.int .i64 ins),.x 4 [],.x 5 [],.x 6 [],.x 7 []] 27,.cells [.v (.int .i64 u)] 3,.ext false (.s false 7 n0 c0),.ext false (.s false 1 n1 c1),.ext false (.s false 2 n2 c2),.ext false (.s false 2 n3 c3)]⟩
 | 0,k,hd,hq=>by
  refine FOk.rnd (qR hm 60 ((zVf fx ad ins u n0 n1 n2 n3 c0 c1 c2 c3 l k 0 _ _).mpr ⟨?_⟩))
  rw[qF,if_neg (by omega)]
  rw[show k=l.length by omega,List.drop_length] at hq
  exact hq
 | d+1,k,hd,hq=>by
  have hk:k<l.length:=by omega
  refine FOk.rnd (qR hm 60 ((zVf fx ad ins u n0 n1 n2 n3 c0 c1 c2 c3 l k (d+1) _ _).mpr ⟨?_⟩))
  rw[qF,if_pos (by omega),qN _ (by omega)]
  rw[qYr hk,qXw] at hq
  refine aI (aI (qK (fun h=>?_) (fun h=>?_)))
  ·rw[h] at hq; exact hq
  ·rw[h] at hq; exact qVu fx ad ins u n0 n1 n2 n3 c0 c1 c2 c3 l hl Q d (k+1) (by omega) hq
theorem jBd:Try.f69.body.isSome=true:=by kernel_rfl
theorem zYl:Nat.ble ([.x 0 [],.fn (.func 48) [] [.p 1 0]]:List SV).length Try.f69.ntmps=true:=by kernel_rfl
theorem zMl(fx ad ins u:Int)(n0 n1 n2 n3:Nat)(c0 c1 c2 c3:Nat→Nat→qB)(l:List (Int×Int×Int×Int))(hl:l.length≤17592186043904)(Q:SV→List HO→Prop)(hq:Q (.v (.int .i64 (qX (qXw n3 u) 0 l))) [.ext false (.s false 4 l.length (cP l)),.cells [.fn (.func 46) [] [.p 2 0,.p 3 0]] 109,.cells [.v (.int .i64 fx),.v (.int .i64 ad),.v (.int .i64 ins),.x 4 [],.x 5 [],.x 6 [],.x 7 []] 27,.cells [.v (.int .i64 u)] 3,.ext false (.s false 7 n0 c0),.ext false (.s false 1 n1 c1),.ext false (.s false 2 n2 c2),.ext false (.s false 2 n3 c3)]):zL Try.prog 8 69 [.x 0 [],.fn (.func 48) [] [.p 1 0]] [.ext false (.s false 4 l.length (cP l)),.cells [.fn (.func 46) [] [.p 2 0,.p 3 0]] 109,.cells [.v (.int .i64 fx),.v (.int .i64 ad),.v (.int .i64 ins),.x 4 [],.x 5 [],.x 6 [],.x 7 []] 27,.cells [.v (.int .i64 u)] 3,.ext false (.s false 7 n0 c0),.ext false (.s false 1 n1 c1),.ext false (.s false 2 n2 c2),.ext false (.s false 2 n3 c3)] Q:=by
 refine qJ Try.func69 jBd ?_ ?_
 ·exact zYl
 refine qR hm 60 ((zWm fx ad ins u n0 n1 n2 n3 c0 c1 c2 c3 l _ _).mpr ⟨?_⟩)
 exact FOk.loop (l.length+1) (by kernel_rfl) (qVu fx ad ins u n0 n1 n2 n3 c0 c1 c2 c3 l hl Q l.length 0 (by omega) hq)
noncomputable def zPc:List SV→List HO→Option ((SV→List HO→Prop)→Prop)
 | [.x 0 [],.fn (.func 48) [] [.p 1 0]],[.ext false (.s false 4 n c),.cells [.fn (.func 46) [] [.p 2 0,.p 3 0]] 109,.cells [.v (.int .i64 fx),.v (.int .i64 ad),.v (.int .i64 ins),.x 4 [],.x 5 [],.x 6 [],.x 7 []] 27,.cells [.v (.int .i64 u)] 3,.ext false (.s false 7 n0 c0),.ext false (.s false 1 n1 c1),.ext false (.s false 2 n2 c2),.ext false (.s false 2 n3 c3)]=>some fun Q=>lP n c fun l=>Q (.v (.int .i64 (qX (qXw n3 u) 0 l))) [.ext false (.s false 4 l.length (cP l)),.cells [.fn (.func 46) [] [.p 2 0,.p 3 0]] 109,.cells [.v (.int .i64 fx),.v (.int .i64 ad),.v (.int .i64 ins),.x 4 [],.x 5 [],.x 6 [],.x 7 []] 27,.cells [.v (.int .i64 u)] 3,.ext false (.s false 7 n0 c0),.ext false (.s false 1 n1 c1),.ext false (.s false 2 n2 c2),.ext false (.s false 2 n3 c3)]
 | _,_=>none
theorem zJo(args:List SV)(h:List HO)(tr:(SV→List HO→Prop)→Prop)(Q:SV→List HO→Prop)(hc:zPc args h=some tr)(ht:tr Q):zL Try.prog h.length 69 args h Q:=by
 unfold zPc at hc
 split at hc
 ·simp only[sI] at hc
  subst hc
  obtain⟨l,rfl,he,hl,hq⟩:=ht.h
  exact qI.ac (zMl _ _ _ _ _ _ _ _ _ _ _ _ l hl Q hq) ⟨⟨rfl,rfl,rfl,rfl,he⟩,HE.refl _,HE.refl _,HE.refl _,HE.refl _,HE.refl _,HE.refl _,HE.refl _,trivial⟩
 ·cases hc
noncomputable def K73:Con Try.prog:=((zQz.addW 69 zPc zJo).setW 47).setW 44
end Go.Proofs.Ytlmjdcbhpffanaa
/- Does a sheet fit? -/
namespace Go.Pl
open Go.Sx
def wrT(n u:Int)(t:List (List Nat)):Bool:=!((t.length:Int)==n)||t.any (wK u)
def wrP(n:Nat)(u:Int)(l:List (Int×Int×Int×Int)):Bool:=decide (256<(l.length:Int))||l.any (qXw n u)
def qVy(c:Cir)(k:Int)(s:Sht):Int:=if xA c≠0 then xA c else if k<3 then 60 else if 5<k then 60 else if wrT c.fx (usN k) s.fx then 130 else if wrT c.ad (usN k) s.ad then 130 else if wrT c.ins (usN k) s.is then 130 else if wrP c.eqs.length (usN k) s.cp then 130 else 0
structure lF (fx ad ins : Int) (n0 n1 n2 n3 m0 m1 m2 m3 : Nat) (c0 c1 c2 c3 d0 d1 d2 d3 : Nat → Nat → qB) (k : Cir → Sht → Prop) : Prop where
  h : lC fx ad ins n0 n1 n2 n3 c0 c1 c2 c3 fun c => lS m0 m1 m2 m3 d0 d1 d2 d3 fun s => k c s
end Go.Pl
namespace Go.Proofs.Ytlmjdcbhpffanaa
open Go.Sx Go.Pl
set_option linter.unusedVariables false
set_option maxRecDepth 100000
theorem fiS(c:Cir)(s:Sht)(k:Int)(K:List It→St→Prop)(R:SV→List HO→Prop):W (xwp Try.prog X K73 [(32,[]),(44,[]),(45,[]),(47,[])] 60 (qO Try.f20 [] []) [] [.at []] ⟨qQ 0 [.agg [.v (.int .i64 c.fx),.v (.int .i64 c.ad),.v (.int .i64 c.ins),.x 0 [],.x 1 [],.x 2 [],.x 3 []],.v (.int .i64 k),.agg [.x 4 [],.x 5 [],.x 6 [],.x 7 []]],[.ext false (.s false 7 c.nodes.length (cN c.nodes)),.ext false (.s false 1 c.gates.length (cI c.gates)),.ext false (.s false 2 c.looks.length (cL c.looks)),.ext false (.s false 2 c.eqs.length (cK c.eqs)),.ext false (.s false 1 s.fx.length (cT s.fx)),.ext false (.s false 1 s.ad.length (cT s.ad)),.ext false (.s false 1 s.is.length (cT s.is)),.ext false (.s false 4 s.cp.length (cP s.cp))]⟩ K R)=W (lC c.1 c.2 c.3 c.4.length c.5.length c.6.length c.7.length (cN c.4) (cI c.5) (cL c.6) (cK c.7) fun(c_1:Cir)=>bif !xA c_1==(0:Int) then R (.v (qA (xA c_1))) [] else bif decide (k<(3:Int)) then R (.v (qA 60)) [] else bif decide ((5:Int)<k) then R (.v (qA 60)) [] else(∀ M:Mem,0+1≤1)∧(∀ M:Mem,0+1≤1)∧(∀ M:Mem,0+1≤1)∧bif !(↑s.1.length:Int)==c.1 then R (.v (qA 130)) [] else lT s.1.length (cT s.1) fun(l:List (List Nat))=>lU (lc 1 [.v (qA (usN k))]) fun(u:Int)=>bif decide ((0:Int)≤qX (wK u) 0 l) then R (.v (qA 130)) [] else bif !(↑s.2.length:Int)==c.2 then R (.v (qA 130)) [] else lT s.2.length (cT s.2) fun(l:List (List Nat))=>lU (lc 1 [.v (qA (usN k))]) fun(u:Int)=>bif decide ((0:Int)≤qX (wK u) 0 l) then R (.v (qA 130)) [] else bif !(↑s.3.length:Int)==c.3 then R (.v (qA 130)) [] else lT s.3.length (cT s.3) fun(l:List (List Nat))=>lU (lc 1 [.v (qA (usN k))]) fun(u:Int)=>bif decide ((0:Int)≤qX (wK u) 0 l) then R (.v (qA 130)) [] else bif decide ((256:Int)<(↑s.4.length:Int)) then R (.v (qA 130)) [] else lP s.4.length (cP s.4) fun(l:List (Int×Int×Int×Int))=>bif decide ((0:Int)≤qX (qXw c.7.length (usN k)) 0 l) then R (.v (qA 130)) [] else R (.v (qA 0)) []):=by kernel_rfl
theorem bFi:Try.f20.body.isSome=true:=by kernel_rfl
theorem nFi(c:Cir)(k:Int):Nat.ble ([.agg [.v (.int .i64 c.fx),.v (.int .i64 c.ad),.v (.int .i64 c.ins),.x 0 [],.x 1 [],.x 2 [],.x 3 []],.v (.int .i64 k),.agg [.x 4 [],.x 5 [],.x 6 [],.x 7 []]]:List SV).length Try.f20.ntmps=true:=by kernel_rfl
theorem zUt(c:Cir)(hc:c.ok)(s:Sht)(hs:s.ok)(k:Int)(Q:SV→List HO→Prop)(hq:Q (.v (.int .i64 (qVy c k s))) []):qI Try.prog 20 [.agg [.v (.int .i64 c.fx),.v (.int .i64 c.ad),.v (.int .i64 c.ins),.x 0 [],.x 1 [],.x 2 [],.x 3 []],.v (.int .i64 k),.agg [.x 4 [],.x 5 [],.x 6 [],.x 7 []]] [.ext false (.s false 7 c.nodes.length (cN c.nodes)),.ext false (.s false 1 c.gates.length (cI c.gates)),.ext false (.s false 2 c.looks.length (cL c.looks)),.ext false (.s false 2 c.eqs.length (cK c.eqs)),.ext false (.s false 1 s.fx.length (cT s.fx)),.ext false (.s false 1 s.ad.length (cT s.ad)),.ext false (.s false 1 s.is.length (cT s.is)),.ext false (.s false 4 s.cp.length (cP s.cp))] Q:=by
 refine qJ Try.func20 bFi ?_ ?_
 ·exact nFi c k
 have hp:=hs.c.2
 refine qE hm 60 ((fiS c s k _ _).mpr ⟨?_⟩)
 rw[qVy] at hq
 refine qLj c hc ?_
 rw[zC,zF]
 refine qH (fun h0=>?_) (fun h0=>by rw[if_pos h0] at hq; exact hq)
 rw[if_neg (fun h=>h h0)] at hq
 rw[qF,qF]
 refine qH (fun h1=>by rw[if_pos h1] at hq; exact hq) (fun h1=>qH (fun h2=>by rw[if_neg h1,if_pos h2] at hq; exact hq) (fun h2=>?_))
 rw[if_neg h1,if_neg h2] at hq
 refine aI (aI (And.intro (fun _=>by omega) ?_))
 have one:∀(t:List (List Nat)) (n:Int) (X Y:Prop),okT t→(wrT n (usN k) t=true→X)→(wrT n (usN k) t=false→Y)→(bif !((t.length:Int)==n) then X else lT t.length (cT t) fun l=>lU (lc 1 [.v (qA (usN k))]) fun u=>bif decide ((0:Int)≤qX (wK u) 0 l) then X else Y):=by
  intro t n X Y ho hx hy
  rw[wrT] at hx hy
  refine qK (fun e=>hx (by rw[e]; rfl)) (fun e=>qLt ho (zVo _ ?_))
  rw[e,Bool.false_or] at hx hy
  rw[zU]
  exact qK hx hy
 refine one _ _ _ _ hs.f (fun e=>by rw[if_pos e] at hq; exact hq) (fun e=>?_)
 rw[if_neg (by rw[e]; exact Bool.false_ne_true)] at hq
 refine one _ _ _ _ hs.a (fun e=>by rw[if_pos e] at hq; exact hq) (fun e=>?_)
 rw[if_neg (by rw[e]; exact Bool.false_ne_true)] at hq
 refine one _ _ _ _ hs.i (fun e=>by rw[if_pos e] at hq; exact hq) (fun e=>?_)
 rw[if_neg (by rw[e]; exact Bool.false_ne_true),wrP] at hq
 refine qK (fun e=>?_) (fun e=>zUs _ (by omega) ?_)
 ·rw[e] at hq; exact hq
 rw[e,Bool.false_or] at hq
 rw[zU]
 refine qK (fun e=>?_) (fun e=>?_)
 ·rw[if_pos e] at hq; exact hq
 ·rw[if_neg (by rw[e]; exact Bool.false_ne_true)] at hq; exact hq
noncomputable def gFi:List SV→List HO→Option ((SV→List HO→Prop)→Prop)
 | [.agg [.v (.int .i64 fx),.v (.int .i64 ad),.v (.int .i64 ins),.x 0 [],.x 1 [],.x 2 [],.x 3 []],.v (.int .i64 k),.agg [.x 4 [],.x 5 [],.x 6 [],.x 7 []]],[.ext false (.s false 7 n0 c0),.ext false (.s false 1 n1 c1),.ext false (.s false 2 n2 c2),.ext false (.s false 2 n3 c3),.ext false (.s false 1 m0 d0),.ext false (.s false 1 m1 d1),.ext false (.s false 1 m2 d2),.ext false (.s false 4 m3 d3)] =>
  some fun Q=>lF fx ad ins n0 n1 n2 n3 m0 m1 m2 m3 c0 c1 c2 c3 d0 d1 d2 d3 fun c s=>Q (.v (.int .i64 (qVy c k s))) []
 | _,_=>none
theorem zOy(args:List SV)(h:List HO)(tr:(SV→List HO→Prop)→Prop)(Q:SV→List HO→Prop)(hc:gFi args h=some tr)(ht:tr Q):qI Try.prog 20 args h Q:=by
 unfold gFi at hc
 split at hc
 ·simp only[sI] at hc
  subst hc
  obtain⟨c,rfl,rfl,rfl,⟨rfl,e0⟩,⟨rfl,e1⟩,⟨rfl,e2⟩,⟨rfl,e3⟩,hk,ht2⟩:=ht.h.h
  obtain⟨s,⟨rfl,e4⟩,⟨rfl,e5⟩,⟨rfl,e6⟩,⟨rfl,e7⟩,hs,hq⟩:=ht2.h
  exact qI.ac (zUt c hk s hs _ Q hq) ⟨⟨rfl,rfl,rfl,rfl,e0⟩,⟨rfl,rfl,rfl,rfl,e1⟩,⟨rfl,rfl,rfl,rfl,e2⟩,⟨rfl,rfl,rfl,rfl,e3⟩,⟨rfl,rfl,rfl,rfl,e4⟩,⟨rfl,rfl,rfl,rfl,e5⟩,⟨rfl,rfl,rfl,rfl,e6⟩,⟨rfl,rfl,rfl,rfl,e7⟩,trivial⟩
 ·cases hc
noncomputable def K74:Con Try.prog:=K73.add 20 gFi zOy
end Go.Proofs.Ytlmjdcbhpffanaa
/- An argument that is a nil slice, told as an empty frozen memory. -/
namespace Go.Sx
open Go.RowKit
theorem qI.nilX{P:Program}{f:FuncId}{args args':List SV}{h:List HO}{Q:SV→List HO→Prop}(sz:Nat)(c:Nat→Nat→qB)(hw:wsL (h.length+1) args')(hd:∀ e e0:Env,e.val h.length []=.slice none 0 0→zE h.length e0 e→qL e args'=qL e0 args)(k:qI P f args' (h++[.ext false (.s false sz 0 c)]) Q):qI P f args h Q:=by
 intro F hF w0 e hm S hws
 have S2:=S.newExt hF false (.s false sz 0 c) (fun _=>.slice none 0 0) (fun _=>rfl) ⟨none,⟨0,rfl,Nat.le_refl _⟩,.inl rfl⟩
 have hk:=k F hF w0 _ hm S2 (by rw[List.length_append]; exact hw)
 have hv:=hd (e.setV h.length (fun _=>.slice none 0 0) (fun _=>rfl)) e (by simp [Env.setV]) (jC e h.length _ _)
 rw[← hv]
 exact hk
end Go.Sx
/- A row of one's own is given up; what refers to it in other objects is told anew. -/
namespace Go.Sx
open Go.RowKit
def qNw(i n:Nat):HO→HO
 | .cells xs T=>.cells (qNn i n xs) T
 | .row T sz k xs=>.row T sz k (qNn i n xs)
 | x=>x
theorem FOk.frzH{P:Program}{m:Nat}{fn:Func}{Q:SV→List HO→Prop}{k:List It}{tm:List (Nat×SV)}{h:List HO}(i:Nat){T:TypeId}{sz n:Nat}{c:Ct}(hi:h[i]?=some (.rowc T sz n c))(hk:zZ P m fn Q k ⟨zCx i h.length tm,(h.set i .gone++[HO.ext false (qB.s false sz n c.at)]).map (qNw i h.length)⟩):zZ P m fn Q k ⟨tm,h⟩:=by
 intro F hF w0 hw0 e a w S T0
 have hlt:=(List.getElem?_eq_some_iff.1 hi).1
 obtain⟨S1,hle⟩:=S.drop hF i hlt
 obtain⟨qT,h1,_,h2⟩:=S.sat i _ hi
 obtain⟨f,f1,f2,f3⟩:=S.frozen hi rfl h1 hle h2
 have S2:=S1.newExt hF false (.s false sz n c.at) f f1 (by simpa using f3)
 rw[List.length_set] at S2
 have hag:=jC e h.length f f1
 have hv:(e.setV h.length f f1).val h.length []=(e.setV h.length f f1).row i:=by
  have:(e.setV h.length f f1).val h.length=f:=by simp [Env.setV]
  rw[this,f2]; rfl
 have hl:(h.set i HO.gone++[HO.ext false (.s false sz n c.at)]).length=h.length+1:=by simp
 have S3:=S2.conv hF (h':=(h.set i HO.gone++[HO.ext false (.s false sz n c.at)]).map (qNw i h.length)) (by rw[List.length_map]) (fun j x' hx'=>by
  rw[List.getElem?_map] at hx'
  obtain⟨x,hx,rfl⟩:=Option.map_eq_some_iff.1 hx'
  refine⟨x,hx,?_,?_,?_⟩
  ·cases x <;> rfl
  ·cases x with
   | cells xs T=>intro hs; simp only[qNw,HO.sat,wA i _ _ hv] at hs ⊢; exact hs
   | row T sz k xs=>intro hs; simp only[qNw,HO.sat,wA i _ _ hv] at hs ⊢; exact hs
   | _=>exact fun hs=>hs
  ·cases x with
   | cells xs T=>exact fun hs=>qAj i h.length _ (by rw[hl]; exact Nat.lt_succ_self _) xs hs
   | row T sz k xs=>exact fun hs=>qAj i h.length _ (by rw[hl]; exact Nat.lt_succ_self _) xs hs
   | _=>exact fun hs=>hs)
 refine hk F hF w0 hw0 _ a w S3 ⟨T0.size,T0.defers,fun t s hs=>?_,fun t s hs=>?_⟩
 ·obtain⟨s0,q1,rfl⟩:=qCx i _ tm hs
  rw[qEt i _ _ hv,T0.get t s0 q1,jK hag s0 (T0.wsc t s0 q1)]
 ·obtain⟨s0,q1,rfl⟩:=qCx i _ tm hs
  show ws ((h.set i HO.gone++[HO.ext false (.s false sz n c.at)]).map (qNw i h.length)).length _
  rw[List.length_map,hl]
  exact qIb i _ _ (Nat.lt_succ_self _) s0 (yR (Nat.le_succ _) s0 (T0.wsc t s0 q1))
end Go.Sx
/- Arguments whose objects are told in another order. -/
namespace Go.Sx
open Go.RowKit
theorem qI.gcA{P:Program}{f:FuncId}{args args':List SV}{h h':List HO}{Q:SV→List HO→Prop}(π:List Nat)(hn:xD π=true)(ha:qGh π args=some args')(hh:qFs π h π=some h')(k:qI P f args' h' Q):qI P f args h Q:=by
 intro F hF w0 e hm0 S hw
 obtain⟨l1,l2⟩:=xQ π h π hh
 obtain⟨a,b⟩:=jY π args ha
 have:=k F hF w0 (zV π e) hm0 (S.ren hF π hn ⟨by rw[hm0]; exact Nat.zero_le _,fun i hi=>by rw[hm0] at hi; omega⟩ (fun i x hx=>(l2 i x hx).1) (fun i x hx=>by rw[l1]; exact(l2 i x hx).2)) (by rw[l1]; exact b)
 rw[wB,a] at this
 exact this
end Go.Sx
/- Rows of own rows: one of them taken out, put back; given up. -/
namespace Go.Sx
open Go.RowKit
mutual
def qJi (i n : Nat) : SV → SV
  | .o j => bif Nat.beq j i then .o n else .o j
  | .agg cs => .agg (qIo i n cs)
  | .tup cs => .tup (qIo i n cs)
  | .fn f a c => .fn f (qIo i n a) (qIo i n c)
  | .ifc t y => .ifc t (qJi i n y)
  | .v x => .v x
  | .bl b => .bl b
  | .p j off => .p j off
  | .q j off => .q j off
  | .m j => .m j
  | .sl j off len cap => .sl j off len cap
  | .x j p => .x j p
  | .xp j p sz k c => .xp j p sz k c
  | .qk j sz k c => .qk j sz k c
def qIo (i n : Nat) : List SV → List SV
  | [] => []
  | x :: r => qJi i n x :: qIo i n r
end
mutual
theorem qJs (i n : Nat) (e : Env) (h : e.row n = e.row i) : ∀ s, den e (qJi i n s) = den e s
  | .o j => by
    simp only [qJi]
    cases hb : Nat.beq j i with
    | true => rw [cond_true, den, den, h, Nat.eq_of_beq_eq_true hb]
    | false => rfl
  | .agg cs => by simp only [qJi, den, wW i n e h cs]
  | .tup cs => by simp only [qJi, den, wW i n e h cs]
  | .fn f a c => by simp only [qJi, den, wW i n e h a, wW i n e h c]
  | .ifc t y => by simp only [qJi, den, qJs i n e h y]
  | .v x => rfl
  | .bl b => rfl
  | .p j off => rfl
  | .q j off => rfl
  | .m j => rfl
  | .sl j off len cap => rfl
  | .x j p => rfl
  | .xp j p sz k c => rfl
  | .qk j sz k c => rfl
theorem wW (i n : Nat) (e : Env) (h : e.row n = e.row i) : ∀ l, qL e (qIo i n l) = qL e l
  | [] => rfl
  | x :: r => by simp only [qIo, qL, qJs i n e h x, wW i n e h r]
end
mutual
theorem qSg (i n m : Nat) (h : n < m) : ∀ s, ws m s → ws m (qJi i n s)
  | .o j, hs => by
    simp only [qJi]
    cases Nat.beq j i with
    | true => exact h
    | false => exact hs
  | .agg cs, hs => qBe i n m h cs hs
  | .tup cs, hs => qBe i n m h cs hs
  | .fn f a c, hs => ⟨qBe i n m h a hs.1, qBe i n m h c hs.2⟩
  | .ifc t y, hs => qSg i n m h y hs
  | .v x, _ => trivial
  | .bl b, _ => trivial
  | .p j off, hs => hs
  | .q j off, hs => hs
  | .m j, hs => hs
  | .sl j off len cap, hs => hs
  | .x j p, hs => hs
  | .xp j p sz k c, hs => hs
  | .qk j sz k c, hs => hs
theorem qBe (i n m : Nat) (h : n < m) : ∀ l, wsL m l → wsL m (qIo i n l)
  | [], _ => trivial
  | x :: r, hs => ⟨qSg i n m h x hs.1, qBe i n m h r hs.2⟩
end
def zCv(i n:Nat):List (Nat×SV)→List (Nat×SV)
 | []=>[]
 | (t,s)::r=>(t,qJi i n s)::zCv i n r
theorem qGr(i n:Nat):∀(l:List (Nat×SV)) {t:Nat} {s:SV},lk (zCv i n l) t=some s→∃ s0,lk l t=some s0∧s=qJi i n s0
 | [],t,s,h=>by cases h
 | (u,x)::r,t,s,h=>by
  simp only[zCv,lk] at h ⊢
  cases hb:Nat.beq u t with
  | true =>
   rw[hb] at h
   simp only[cond_true,sI] at h
   exact⟨x,rfl,h.symm⟩
  | false =>
   rw[hb] at h
   exact qGr i n r h
def qNx(i n:Nat):HO→HO
 | .cells xs T=>.cells (qIo i n xs) T
 | .row T sz k xs=>.row T sz k (qIo i n xs)
 | .mp ag ks kl c=>.mp ag ks kl (c.map (qIo i n))
 | x=>x
theorem qP.reown{F:Mem→Prop}(hF:zS F){w0:wV}{h h':List HO}{e e':Env}{w:World}(S:qP F w0 h e w)(hag:zE h.length e e')(hlen:h.length≤h'.length)(hsat:(mem w e h).le (mem w e' h')→∀(i:Nat) (ho:HO),h'[i]?=some ho→ho.sat e' (mem w e' h') i w)(hws:∀(i:Nat) (ho:HO),h'[i]?=some ho→ho.ws h'.length)(hone:∀(i j:Nat) (ho ho':HO) (b:Nat),h'[i]?=some ho→h'[j]?=some ho'→ho.own e' i b→ho'.own e' j b→i=j)(hown:∀(i:Nat) (ho:HO) (b:Nat),h'[i]?=some ho→ho.own e' i b→wE e h b):qP F w0 h' e' w:=by
 have hM:(mem w e h).le (mem w e' h'):=by
  intro b o hb
  unfold mem at hb ⊢
  split at hb
  ·cases hb
  ·rename_i hno
   rw[if_neg,hb]
   rintro⟨i,x,hx,hb2⟩
   exact hno (hown i x b hx hb2)
 refine⟨S.os,S.tape,S.output,hsat hM,hws,hone,hF _ _ hM S.fact,fun i ho b hi hb=>?_,fun b hb=>?_,hag.2.trans S.ez,Nat.le_trans S.pin.1 hlen,fun i hi=>?_⟩
 ·obtain⟨j,y,h1,h2⟩:=hown i ho b hi hb
  rw[hag.2]
  exact S.nz j y b h1 h2
 ·rw[hag.2] at hb
  exact S.zlt b hb
 ·obtain⟨a1,a2,a3⟩:=hag.1 i (Nat.lt_of_lt_of_le hi S.pin.1)
  obtain⟨b1,b2,b3⟩:=S.pin.2 i hi
  exact⟨a1.trans b1,a2.trans b2,a3.trans b3⟩
theorem yE(k:Nat):inH none k:=fun m hk=>by cases hk
theorem zMp{k m q:Nat}(h:inH (some (k,m)) q):q≠k:=fun e=>h m (by rw[e])
theorem qGb{k m q:Nat}(h:q≠k):inH (some (k,m)) q:=fun y hy=>by
 simp only[sI,pI] at hy
 exact h hy.1.symm
theorem zG{h:List HO}{i j:Nat}{x y z:HO}(hi:i<h.length)(hg:(h.set i x++[y])[j]?=some z):(j=h.length∧z=y)∨(j=i∧z=x)∨(j≠i∧j<h.length∧h[j]?=some z):=by
 rw[List.getElem?_append] at hg
 split at hg
 ·rename_i hlt
  rw[List.length_set] at hlt
  by_cases hji:j=i
  ·subst hji
   simp [hi] at hg
   exact .inr (.inl ⟨rfl,hg.symm⟩)
  ·exact .inr (.inr ⟨hji,hlt,qAd hji hg⟩)
 ·rename_i hge
  rw[List.length_set] at hge hg
  cases hk:j-h.length with
  | zero =>
   rw[hk] at hg
   simp only[List.getElem?_cons_zero,sI] at hg
   exact .inl ⟨by omega,hg.symm⟩
  | succ q=>rw[hk] at hg; simp at hg
theorem qP.focus{F:Mem→Prop}(hF:zS F){w0:wV}{h:List HO}{e:Env}{w:World}(S:qP F w0 h e w){i k:Nat}{T0 T1:TypeId}{sz n:Nat}{c:Nat→Nat×(Nat→Nat→qB)}(hi:h[i]?=some (.tbl T0 T1 sz n c none))(hk:k<n):
  qP F w0 (h.set i (.tbl T0 T1 sz n c (some (k,h.length)))++[.rowc T1 sz (c k).1 (.fn (c k).2)]) (e.setR h.length (e.val i [(1,k,0)])) w:=by
 have hlt:=(List.getElem?_eq_some_iff.1 hi).1
 have hag:=zQ e h.length (e.val i [(1,k,0)])
 have hrow:(e.setR h.length (e.val i [(1,k,0)])).row h.length=e.val i [(1,k,0)]:=by simp [Env.setR]
 have hri:(e.setR h.length (e.val i [(1,k,0)])).row i=e.row i:=(hag.1 i hlt).2.1
 obtain⟨⟨hds,d1,d2,d3⟩,d4,d5,d6⟩:=S.sat i _ hi
 have ownT:∀ b,(HO.tbl T0 T1 sz n c (some (k,h.length))).own (e.setR h.length (e.val i [(1,k,0)])) i b→(HO.tbl T0 T1 sz n c none).own e i b∧(e.val i [(1,k,0)]).ownBlock≠some b:=by
  intro b hb
  simp only[HO.own,hri] at hb
  rcases hb with hb | ⟨q,hq,hiq,hb⟩
  ·exact⟨.inl hb,fun hh=>d6 k b hk (yE k) hh hb⟩
  ·exact⟨.inr ⟨q,hq,yE q,hb⟩,fun hh=>zMp hiq (d5 q k b hq hk (yE q) (yE k) hb hh)⟩
 refine S.reown hF hag (by simp) (fun hM j x hx=>?_) (fun j x hx=>?_) (fun j1 j2 x1 x2 b hx1 hx2 hb1 hb2=>?_) (fun j x b hx hb=>?_)
 ·rcases zG hlt hx with ⟨rfl,rfl⟩ | ⟨rfl,rfl⟩ | ⟨_,hj,hx0⟩
  ·obtain⟨qT,g1,g2,g3⟩:=d4 k hk (yE k)
   simp only[HO.sat,hrow]
   exact⟨qT,g1,g2,zB (Mem.sub_mono hM _) g3⟩
  ·simp only[HO.sat,hri]
   refine⟨⟨hds,d1,d2,fun q hq=>?_⟩,fun q hq hiq=>?_,fun q q' b hq hq' _ _ h1 h2=>d5 q q' b hq hq' (yE q) (yE q') h1 h2,fun q b hq _ h1=>d6 q b hq (yE q) h1⟩
   ·rw[d3 q hq]
    by_cases hqk:q=k
    ·subst hqk; simp only[thd,if_true,hrow]
    ·simp only[thd,if_neg hqk]; rfl
   ·obtain⟨qT,g1,g2,g3⟩:=d4 q hq (yE q)
    exact⟨qT,g1,g2,zB (Mem.sub_mono hM _) g3⟩
  ·exact HO.sat_keep hM hj hag (S.ws j x hx0) (S.sat j x hx0) fun _ _=>rfl
 ·rw[List.length_append,List.length_set,List.length_singleton]
  rcases zG hlt hx with ⟨rfl,rfl⟩ | ⟨rfl,rfl⟩ | ⟨_,hj,hx0⟩
  ·trivial
  ·intro q m hq
   simp only[sI,pI] at hq
   omega
  ·exact HO.ws_mono (Nat.le_succ _) (S.ws j x hx0)
 ·have rowOwn:∀ b,(HO.rowc T1 sz (c k).1 (.fn (c k).2)).own (e.setR h.length (e.val i [(1,k,0)])) h.length b→(e.val i [(1,k,0)]).ownBlock=some b:=by
   intro b hb
   simp only[HO.own,hrow] at hb
   exact hb
  have oldOwn:∀(j:Nat) (x:HO),j<h.length→x.own (e.setR h.length (e.val i [(1,k,0)])) j b→x.own e j b:=fun j x hj hb=>by
   rw[HO.own_agree hj hag] at hb; exact hb
  have inner:(e.val i [(1,k,0)]).ownBlock=some b→(HO.tbl T0 T1 sz n c none).own e i b:=fun hb=>.inr ⟨k,hk,yE k,hb⟩
  rcases zG hlt hx1 with ⟨rfl,rfl⟩ | ⟨rfl,rfl⟩ | ⟨n1,hj1,hy1⟩
  ·rcases zG hlt hx2 with ⟨rfl,rfl⟩ | ⟨rfl,rfl⟩ | ⟨n2,hj2,hy2⟩
   ·rfl
   ·exact absurd (rowOwn b hb1) (ownT b hb2).2
   ·exact absurd (S.one j2 i x2 _ b hy2 hi (oldOwn j2 x2 hj2 hb2) (inner (rowOwn b hb1))) n2
  ·rcases zG hlt hx2 with ⟨rfl,rfl⟩ | ⟨rfl,rfl⟩ | ⟨n2,hj2,hy2⟩
   ·exact absurd (rowOwn b hb2) (ownT b hb1).2
   ·rfl
   ·exact absurd (S.one j2 j1 x2 _ b hy2 hi (oldOwn j2 x2 hj2 hb2) (ownT b hb1).1) n2
  ·rcases zG hlt hx2 with ⟨rfl,rfl⟩ | ⟨rfl,rfl⟩ | ⟨n2,hj2,hy2⟩
   ·exact absurd (S.one j1 i x1 _ b hy1 hi (oldOwn j1 x1 hj1 hb1) (inner (rowOwn b hb2))) n1
   ·exact absurd (S.one j1 j2 x1 _ b hy1 hi (oldOwn j1 x1 hj1 hb1) (ownT b hb2).1) n1
   ·exact S.one j1 j2 x1 x2 b hy1 hy2 (oldOwn j1 x1 hj1 hb1) (oldOwn j2 x2 hj2 hb2)
 ·rcases zG hlt hx with ⟨rfl,rfl⟩ | ⟨rfl,rfl⟩ | ⟨_,hj,hx0⟩
  ·simp only[HO.own,hrow] at hb
   exact⟨i,_,hi,.inr ⟨k,hk,yE k,hb⟩⟩
  ·exact⟨j,_,hi,(ownT b hb).1⟩
  ·rw[HO.own_agree hj hag] at hb
   exact⟨j,x,hx0,hb⟩
theorem FOk.focus{P:Program}{m:Nat}{fn:Func}{Q:SV→List HO→Prop}{its:List It}{tm:List (Nat×SV)}{h:List HO}(i k:Nat){T0 T1:TypeId}{sz n:Nat}{c:Nat→Nat×(Nat→Nat→qB)}(hi:h[i]?=some (.tbl T0 T1 sz n c none))(hk:k<n)(hx:zZ P m fn Q its ⟨tm,h.set i (.tbl T0 T1 sz n c (some (k,h.length)))++[.rowc T1 sz (c k).1 (.fn (c k).2)]⟩):zZ P m fn Q its ⟨tm,h⟩:=by
 intro F hF w0 hw0 e a w S T0'
 have hag:=zQ e h.length (e.val i [(1,k,0)])
 refine hx F hF w0 hw0 _ a w (S.focus hF hi hk) ⟨T0'.size,T0'.defers,fun t s hs=>?_,fun t s hs=>?_⟩
 ·rw[T0'.get t s hs,jK hag s (T0'.wsc t s hs)]
 ·show ws (h.set i (HO.tbl T0 T1 sz n c (some (k,h.length)))++[HO.rowc T1 sz (c k).1 (.fn (c k).2)]).length s
  rw[List.length_append,List.length_set]
  exact yR (Nat.le_add_right _ _) s (T0'.wsc t s hs)
def qIl(c:Nat→Nat×(Nat→Nat→qB))(k n2:Nat)(c2:Nat→Nat→qB):Nat→Nat×(Nat→Nat→qB):=fun q=>bif Nat.beq q k then(n2,c2) else c q
theorem zAi(c:Nat→Nat×(Nat→Nat→qB))(k n2:Nat)(c2:Nat→Nat→qB):qIl c k n2 c2 k=(n2,c2):=by rw[qIl,Nat.beq_refl]; rfl
theorem zAs(c:Nat→Nat×(Nat→Nat→qB))(k n2:Nat)(c2:Nat→Nat→qB){q:Nat}(h:q≠k):qIl c k n2 c2 q=c q:=by
 have hb:Nat.beq q k=false:=by
  rw[Bool.eq_false_iff]
  intro hh
  exact h (Nat.eq_of_beq_eq_true hh)
 rw[qIl,hb]; rfl
def qEn(f:yC→Value)(k:Nat)(v:Value):yC→Value:=fun p=>if p=[(1,k,0)] then v else f p
theorem qEs(f:yC→Value)(k:Nat)(v:Value):qEn f k v [(1,k,0)]=v:=by simp [qEn]
theorem qCz(f:yC→Value)(v:Value){k q:Nat}(h:q≠k):qEn f k v [(1,q,0)]=f [(1,q,0)]:=by simp [qEn,h]
theorem zGp{h:List HO}{m j:Nat}{x:HO}(hx:(h.set m .gone)[j]?=some x):(j=m∧x=.gone)∨(j≠m∧h[j]?=some x):=by
 by_cases hjm:j=m
 ·subst hjm
  have hlt:j<h.length:=by
   have:=(List.getElem?_eq_some_iff.1 hx).1
   simpa using this
  simp [hlt] at hx
  exact .inl ⟨rfl,hx.symm⟩
 ·exact .inr ⟨hjm,qAd hjm hx⟩
theorem qP.unfocus{F:Mem→Prop}(hF:zS F){w0:wV}{h:List HO}{e:Env}{w:World}(S:qP F w0 h e w){i m k:Nat}{T0 T1:TypeId}{sz n n2:Nat}{c:Nat→Nat×(Nat→Nat→qB)}{c2:Ct}(hi:h[i]?=some (.tbl T0 T1 sz n c (some (k,m))))(hm:h[m]?=some (.rowc T1 sz n2 c2))(him:i≠m)(hf:∀ p,(qEn (e.val i) k (e.row m) p).oneCell'=true):
  qP F w0 ((h.set m .gone).set i .gone++[.tbl T0 T1 sz n (qIl c k n2 c2.at) none]) ((e.setR h.length (e.row i)).setV h.length (qEn (e.val i) k (e.row m)) hf) w:=by
 have hlt:=(List.getElem?_eq_some_iff.1 hi).1
 have hltm:=(List.getElem?_eq_some_iff.1 hm).1
 have hag:zE h.length e ((e.setR h.length (e.row i)).setV h.length (qEn (e.val i) k (e.row m)) hf):=(zQ e h.length (e.row i)).trans (jC (e.setR h.length (e.row i)) h.length _ hf) (Nat.le_refl _)
 have hrow:((e.setR h.length (e.row i)).setV h.length (qEn (e.val i) k (e.row m)) hf).row h.length=e.row i:=by simp [Env.setR,Env.setV]
 have hval:((e.setR h.length (e.row i)).setV h.length (qEn (e.val i) k (e.row m)) hf).val h.length=qEn (e.val i) k (e.row m):=by simp [Env.setV]
 obtain⟨⟨hds,d1,d2,d3⟩,d4,d5,d6⟩:=S.sat i _ hi
 obtain⟨qT,v1,v2,v3⟩:=S.sat m _ hm
 have mOwn:∀ b,(e.row m).ownBlock=some b→(HO.rowc T1 sz n2 c2).own e m b:=fun b hb=>hb
 have apart:∀ b,(e.row m).ownBlock=some b→¬ (HO.tbl T0 T1 sz n c (some (k,m))).own e i b:=fun b hb hh=>him (S.one i m _ _ b hi hm hh hb)
 have hlen:(h.set m HO.gone).length=h.length:=List.length_set
 have get3:∀(j:Nat) (x:HO),((h.set m HO.gone).set i HO.gone++[HO.tbl T0 T1 sz n (qIl c k n2 c2.at) none])[j]?=some x→(j=h.length∧x=.tbl T0 T1 sz n (qIl c k n2 c2.at) none)∨x=.gone∨(j≠i∧j≠m∧j<h.length∧h[j]?=some x):=by
  intro j x hx
  rcases zG (by rw[hlen]; exact hlt) hx with ⟨h1,h2⟩ | ⟨_,h2⟩ | ⟨h1,h2,h3⟩
  ·exact .inl ⟨by rw[h1,hlen],h2⟩
  ·exact .inr (.inl h2)
  ·rcases zGp h3 with ⟨_,h4⟩ | ⟨h4,h5⟩
   ·exact .inr (.inl h4)
   ·exact .inr (.inr ⟨h1,h4,by rw[hlen] at h2; exact h2,h5⟩)
 have newOwn:∀ b,(HO.tbl T0 T1 sz n (qIl c k n2 c2.at) none).own ((e.setR h.length (e.row i)).setV h.length (qEn (e.val i) k (e.row m)) hf) h.length b→(HO.tbl T0 T1 sz n c (some (k,m))).own e i b∨(e.row m).ownBlock=some b:=by
  intro b hb
  simp only[HO.own,hrow,hval] at hb
  rcases hb with hb | ⟨q,hq,_,hb⟩
  ·exact .inl (.inl hb)
  ·by_cases hqk:q=k
   ·subst hqk; rw[qEs] at hb; exact .inr hb
   ·rw[qCz _ _ hqk] at hb; exact .inl (.inr ⟨q,hq,qGb hqk,hb⟩)
 refine S.reown hF hag (by simp) (fun hM j x hx=>?_) (fun j x hx=>?_) (fun j1 j2 x1 x2 b hx1 hx2 hb1 hb2=>?_) (fun j x b hx hb=>?_)
 ·rcases get3 j x hx with ⟨rfl,rfl⟩ | rfl | ⟨_,_,hj,hx0⟩
  ·simp only[HO.sat,hrow,hval]
   refine⟨⟨hds,d1,d2,fun q hq=>?_⟩,fun q hq _=>?_,fun q q' b hq hq' _ _ h1 h2=>?_,fun q b hq _ h1=>?_⟩
   ·rw[d3 q hq]
    by_cases hqk:q=k
    ·subst hqk; simp only[thd,if_true,hval,qEs]
    ·simp only[thd,if_neg hqk,hval,qCz _ _ hqk]
   ·by_cases hqk:q=k
    ·subst hqk
     rw[qEs,zAi]
     exact⟨qT,v1,v2,zB (Mem.sub_mono hM _) v3⟩
    ·rw[qCz _ _ hqk,zAs _ _ _ _ hqk]
     obtain⟨us,g1,g2,g3⟩:=d4 q hq (qGb hqk)
     exact⟨us,g1,g2,zB (Mem.sub_mono hM _) g3⟩
   ·by_cases hqk:q=k
    ·by_cases hqk':q'=k
     ·rw[hqk,hqk']
     ·subst hqk
      rw[qEs] at h1
      rw[qCz _ _ hqk'] at h2
      exact absurd (.inr ⟨q',hq',qGb hqk',h2⟩) (apart b h1)
    ·rw[qCz _ _ hqk] at h1
     by_cases hqk':q'=k
     ·subst hqk'
      rw[qEs] at h2
      exact absurd (.inr ⟨q,hq,qGb hqk,h1⟩) (apart b h2)
     ·rw[qCz _ _ hqk'] at h2
      exact d5 q q' b hq hq' (qGb hqk) (qGb hqk') h1 h2
   ·by_cases hqk:q=k
    ·subst hqk
     rw[qEs] at h1
     exact fun hh=>apart b h1 (.inl hh)
    ·rw[qCz _ _ hqk] at h1
     exact d6 q b hq (qGb hqk) h1
  ·trivial
  ·exact HO.sat_keep hM hj hag (S.ws j x hx0) (S.sat j x hx0) fun _ _=>rfl
 ·rw[List.length_append,List.length_set,hlen,List.length_singleton]
  rcases get3 j x hx with ⟨rfl,rfl⟩ | rfl | ⟨_,_,hj,hx0⟩
  ·intro q m hq; cases hq
  ·trivial
  ·exact HO.ws_mono (Nat.le_succ _) (S.ws j x hx0)
 ·have oldOwn:∀(j:Nat) (x:HO),j<h.length→x.own ((e.setR h.length (e.row i)).setV h.length (qEn (e.val i) k (e.row m)) hf) j b→x.own e j b:=fun j x hj hb=>by
   rw[HO.own_agree hj hag] at hb; exact hb
  rcases get3 j1 x1 hx1 with ⟨rfl,rfl⟩ | rfl | ⟨n1,n2,hj1,hy1⟩
  ·rcases get3 j2 x2 hx2 with ⟨rfl,rfl⟩ | rfl | ⟨n3,n4,hj2,hy2⟩
   ·rfl
   ·exact hb2.elim
   ·rcases newOwn b hb1 with hh | hh
    ·exact absurd (S.one j2 i x2 _ b hy2 hi (oldOwn j2 x2 hj2 hb2) hh) n3
    ·exact absurd (S.one j2 m x2 _ b hy2 hm (oldOwn j2 x2 hj2 hb2) (mOwn b hh)) n4
  ·exact hb1.elim
  ·rcases get3 j2 x2 hx2 with ⟨rfl,rfl⟩ | rfl | ⟨n3,n4,hj2,hy2⟩
   ·rcases newOwn b hb2 with hh | hh
    ·exact absurd (S.one j1 i x1 _ b hy1 hi (oldOwn j1 x1 hj1 hb1) hh) n1
    ·exact absurd (S.one j1 m x1 _ b hy1 hm (oldOwn j1 x1 hj1 hb1) (mOwn b hh)) n2
   ·exact hb2.elim
   ·exact S.one j1 j2 x1 x2 b hy1 hy2 (oldOwn j1 x1 hj1 hb1) (oldOwn j2 x2 hj2 hb2)
 ·rcases get3 j x hx with ⟨rfl,rfl⟩ | rfl | ⟨_,_,hj,hx0⟩
  ·rcases newOwn b hb with hh | hh
   ·exact⟨i,_,hi,hh⟩
   ·exact⟨m,_,hm,mOwn b hh⟩
  ·exact hb.elim
  ·rw[HO.own_agree hj hag] at hb
   exact⟨j,x,hx0,hb⟩
theorem qPo{F:Mem→Prop}(hF:zS F){w0:wV}{h:List HO}{e:Env}{w:World}(S:qP F w0 h e w)(i n:Nat)(hn:n<h.length)(hv:e.row n=e.row i):qP F w0 (h.map (qNx i n)) e w:=by
 refine S.conv hF (h':=h.map (qNx i n)) (by rw[List.length_map]) (fun j x' hx'=>?_)
 rw[List.getElem?_map] at hx'
 obtain⟨x,hx,rfl⟩:=Option.map_eq_some_iff.1 hx'
 refine⟨x,hx,?_,?_,?_⟩
 ·cases x <;> rfl
 ·cases x with
  | cells xs T=>intro hs; simp only[qNx,HO.sat,wW i _ _ hv] at hs ⊢; exact hs
  | row T sz k xs=>intro hs; simp only[qNx,HO.sat,wW i _ _ hv] at hs ⊢; exact hs
  | mp ag ks kl c =>
   intro hs
   have hc:(c.map (qIo i n)).den e kl.length=c.den e kl.length:=Mc.den_map _ _ _ _ c fun xs _=>wW i n e hv xs
   simp only[qNx,HO.sat,hc] at hs ⊢
   exact hs
  | _=>exact fun hs=>hs
 ·cases x with
  | cells xs T=>exact fun hs=>qBe i n _ hn xs hs
  | row T sz k xs=>exact fun hs=>qBe i n _ hn xs hs
  | mp ag ks kl c=>exact fun hs=>Mc.ws_map _ _ (qIo i n) c (fun xs _=>qBe i n _ hn xs) hs
  | _=>exact fun hs=>hs
theorem FOk.unfocus{P:Program}{m0:Nat}{fn:Func}{Q:SV→List HO→Prop}{its:List It}{tm:List (Nat×SV)}{h:List HO}(i m k:Nat){T0 T1:TypeId}{sz n n2:Nat}{c:Nat→Nat×(Nat→Nat→qB)}{c2:Ct}(hi:h[i]?=some (.tbl T0 T1 sz n c (some (k,m))))(hm:h[m]?=some (.rowc T1 sz n2 c2))(him:i≠m)(hx:zZ P m0 fn Q its ⟨zCv i h.length tm,((h.set m .gone).set i .gone++[HO.tbl T0 T1 sz n (qIl c k n2 c2.at) none]).map (qNx i h.length)⟩):zZ P m0 fn Q its ⟨tm,h⟩:=by
 intro F hF w0 hw0 e a w S T0'
 have hf:∀ p,(qEn (e.val i) k (e.row m) p).oneCell'=true:=by
  intro p
  unfold qEn
  split
  ·obtain⟨oa,n',cap,hv⟩:=wO S.q (i:=m) (by rw[hm]; rfl)
   rw[hv]; rfl
  ·exact e.one i p
 have hlt:=(List.getElem?_eq_some_iff.1 hi).1
 have hag:zE h.length e ((e.setR h.length (e.row i)).setV h.length (qEn (e.val i) k (e.row m)) hf):=(zQ e h.length (e.row i)).trans (jC (e.setR h.length (e.row i)) h.length _ hf) (Nat.le_refl _)
 have hl:((h.set m HO.gone).set i HO.gone++[HO.tbl T0 T1 sz n (qIl c k n2 c2.at) none]).length=h.length+1:=by simp
 have hv:((e.setR h.length (e.row i)).setV h.length (qEn (e.val i) k (e.row m)) hf).row h.length=((e.setR h.length (e.row i)).setV h.length (qEn (e.val i) k (e.row m)) hf).row i:=by
  rw[(hag.1 i hlt).2.1]; simp [Env.setR,Env.setV]
 have S2:=qPo hF (S.unfocus hF hi hm him hf) i h.length (by rw[hl]; exact Nat.lt_succ_self _) hv
 refine hx F hF w0 hw0 _ a w S2 ⟨T0'.size,T0'.defers,fun t s hs=>?_,fun t s hs=>?_⟩
 ·obtain⟨s0,q1,rfl⟩:=qGr i _ tm hs
  rw[qJs i _ _ hv,T0'.get t s0 q1,jK hag s0 (T0'.wsc t s0 q1)]
 ·obtain⟨s0,q1,rfl⟩:=qGr i _ tm hs
  show ws (((h.set m HO.gone).set i HO.gone++[HO.tbl T0 T1 sz n (qIl c k n2 c2.at) none]).map (qNx i h.length)).length _
  rw[List.length_map,hl]
  exact qSg i _ _ (Nat.lt_succ_self _) s0 (yR (Nat.le_succ _) s0 (T0'.wsc t s0 q1))
theorem qP.frozenV{F:Mem→Prop}{w0:wV}{h:List HO}{e:Env}{w:World}(S:qP F w0 h e w){j:Nat}{ho:HO}(hj:h[j]?=some ho){v:Value}(hown:∀ b,v.ownBlock=some b→ho.own e j b){T:TypeId}{sz n:Nat}{c:Nat→Nat→qB}{qT:List Value}(h1:w.ownsRow 0 T sz v n qT)(h2:yD ((mem w e (h.set j .gone)).sub e.z) sz n c qT):yW ((mem w e (h.set j .gone)).sub e.z) v (.s false sz n c):=by
 obtain⟨hl,h1⟩:=h1
 rcases h1 with ⟨hv,hn⟩ | ⟨g,cap,cur,hv,_,hg,hnc,_,hcs,ht⟩
 ·subst hn
  exact xW none 0 hv (Nat.le_refl _) (.inl rfl) h2
 ·refine xW (some ⟨g,0,none⟩) cap hv hnc (.inr ⟨_,rfl,fun d u hd hu=>?_⟩) h2
  have ho:=hown g (by rw[hv]; rfl)
  have hb:((mem w e (h.set j .gone)).sub e.z) g=some (.cells cur T (0,0)):=by
   unfold Mem.sub
   rw[if_neg (S.nz j _ g hj ho)]
   unfold mem
   rw[if_neg (qKu S hj ho)]
   exact hg
  rw[Addr.add_lit]
  unfold Mem.cell?
  simp only[hb]
  rw[← ht,List.getElem?_take,if_pos hd] at hu
  simpa using hu
theorem FOk.frzTb{P:Program}{m:Nat}{fn:Func}{Q:SV→List HO→Prop}{k:List It}{tm:List (Nat×SV)}{h:List HO}(i:Nat){T0' T1:TypeId}{sz n:Nat}{c:Nat→Nat×(Nat→Nat→qB)}(hi:h[i]?=some (.tbl T0' T1 sz n c none))(hk:zZ P m fn Q k ⟨zCx i h.length tm,(h.set i .gone++[HO.ext false (qB.s false 1 n fun q _=>.s false sz (c q).1 (c q).2)]).map (qNw i h.length)⟩):zZ P m fn Q k ⟨tm,h⟩:=by
 intro F hF w0 hw0 e a w S T0
 have hlt:=(List.getElem?_eq_some_iff.1 hi).1
 obtain⟨S1,hle⟩:=S.drop hF i hlt
 obtain⟨⟨hds,d1,d2,d3⟩,d4,d5,d6⟩:=S.sat i _ hi
 have hrow:yD ((mem w e (h.set i .gone)).sub e.z) 1 n (fun q _=>qB.s false sz (c q).1 (c q).2) hds:=by
  intro q hq j hj
  obtain⟨qT,g1,g2,g3⟩:=d4 q hq (yE q)
  refine⟨_,by rw[show q*1+j=q by omega]; exact d3 q hq,?_⟩
  exact S.frozenV hi (fun b hb=>.inr ⟨q,hq,yE q,hb⟩) g1 (zB (Mem.sub_mono hle _) g3)
 obtain⟨f,f1,f2,f3⟩:=S.frozenV hi (fun b hb=>.inl hb) d1 hrow
 have S2:=S1.newExt hF false (.s false 1 n fun q _=>.s false sz (c q).1 (c q).2) f f1 (by simpa using f3)
 rw[List.length_set] at S2
 have hag:=jC e h.length f f1
 have hv:(e.setV h.length f f1).val h.length []=(e.setV h.length f f1).row i:=by
  have:(e.setV h.length f f1).val h.length=f:=by simp [Env.setV]
  rw[this,f2]; rfl
 have hl:(h.set i HO.gone++[HO.ext false (qB.s false 1 n fun q _=>.s false sz (c q).1 (c q).2)]).length=h.length+1:=by simp
 have S3:=S2.conv hF (h':=(h.set i HO.gone++[HO.ext false (qB.s false 1 n fun q _=>.s false sz (c q).1 (c q).2)]).map (qNw i h.length)) (by rw[List.length_map]) (fun j x' hx'=>by
  rw[List.getElem?_map] at hx'
  obtain⟨x,hx,rfl⟩:=Option.map_eq_some_iff.1 hx'
  refine⟨x,hx,?_,?_,?_⟩
  ·cases x <;> rfl
  ·cases x with
   | cells xs T=>intro hs; simp only[qNw,HO.sat,wA i _ _ hv] at hs ⊢; exact hs
   | row T sz k xs=>intro hs; simp only[qNw,HO.sat,wA i _ _ hv] at hs ⊢; exact hs
   | _=>exact fun hs=>hs
  ·cases x with
   | cells xs T=>exact fun hs=>qAj i h.length _ (by rw[hl]; exact Nat.lt_succ_self _) xs hs
   | row T sz k xs=>exact fun hs=>qAj i h.length _ (by rw[hl]; exact Nat.lt_succ_self _) xs hs
   | _=>exact fun hs=>hs)
 refine hk F hF w0 hw0 _ a w S3 ⟨T0.size,T0.defers,fun t s hs=>?_,fun t s hs=>?_⟩
 ·obtain⟨s0,q1,rfl⟩:=qCx i _ tm hs
  rw[qEt i _ _ hv,T0.get t s0 q1,jK hag s0 (T0.wsc t s0 q1)]
 ·obtain⟨s0,q1,rfl⟩:=qCx i _ tm hs
  show ws ((h.set i HO.gone++[HO.ext false (qB.s false 1 n fun q _=>.s false sz (c q).1 (c q).2)]).map (qNw i h.length)).length _
  rw[List.length_map,hl]
  exact qIb i _ _ (Nat.lt_succ_self _) s0 (yR (Nat.le_succ _) s0 (T0.wsc t s0 q1))
end Go.Sx
namespace Go.Sx
open Go.RowKit
end Go.Sx
namespace Go.Sx
open Go.RowKit
theorem qP.newTn{F:Mem→Prop}(hF:zS F){w0:wV}{h:List HO}{e:Env}{w:World}(S:qP F w0 h e w){i:Nat}{T0:TypeId}{n:Nat}{c0:Ct}(T1:TypeId)(sz:Nat)(cf:Nat→Nat→qB)(hi:h[i]?=some (.rowc T0 1 n c0))(hc:∀ k,k<n→c0.at k 0=.v (.slice none 0 0)):
  qP F w0 (h.set i .gone++[.tbl T0 T1 sz n (fun _=>(0,cf)) none]) ((e.setR h.length (e.row i)).setV h.length (fun _=>.slice none 0 0) (fun _=>rfl)) w:=by
 have hlt:=(List.getElem?_eq_some_iff.1 hi).1
 have hag:zE h.length e ((e.setR h.length (e.row i)).setV h.length (fun _=>.slice none 0 0) (fun _=>rfl)):=(zQ e h.length (e.row i)).trans (jC (e.setR h.length (e.row i)) h.length _ _) (Nat.le_refl _)
 have hrow:((e.setR h.length (e.row i)).setV h.length (fun _=>.slice none 0 0) (fun _=>rfl)).row h.length=e.row i:=by simp [Env.setR,Env.setV]
 have hval:((e.setR h.length (e.row i)).setV h.length (fun _=>.slice none 0 0) (fun _=>rfl)).val h.length=fun _=>.slice none 0 0:=by simp [Env.setV]
 obtain⟨qT,v1,v2,v3⟩:=S.sat i _ hi
 have newOwn:∀ b,(HO.tbl T0 T1 sz n (fun _=>(0,cf)) none).own ((e.setR h.length (e.row i)).setV h.length (fun _=>.slice none 0 0) (fun _=>rfl)) h.length b→(HO.rowc T0 1 n c0).own e i b:=by
  intro b hb
  simp only[HO.own,hrow,hval] at hb
  rcases hb with hb | ⟨q,hq,_,hb⟩
  ·exact hb
  ·cases hb
 refine S.reown hF hag (by simp) (fun hM j x hx=>?_) (fun j x hx=>?_) (fun j1 j2 x1 x2 b hx1 hx2 hb1 hb2=>?_) (fun j x b hx hb=>?_)
 ·rcases zG hlt hx with ⟨rfl,rfl⟩ | ⟨_,rfl⟩ | ⟨_,hj,hx0⟩
  ·simp only[HO.sat,hrow,hval]
   refine⟨⟨qT,v1,v2,fun k hk=>?_⟩,fun k hk _=>⟨[],World.ownsRow_nil w 0 T1 sz,fun u hu=>(by cases hu),fun a ha=>by omega⟩,fun k k' b _ _ _ _ h1=>(by cases h1),fun k b _ _ h1=>(by cases h1)⟩
   obtain⟨u,q1,f,_,q2,q3⟩:=v3 k hk 0 (by omega)
   rw[hc k hk] at q3
   simp only[wT] at q3
   rw[q2] at q3
   subst q3
   simp only[thd,hval]
   rw[← q1]
   congr 1
   omega
  ·trivial
  ·exact HO.sat_keep hM hj hag (S.ws j x hx0) (S.sat j x hx0) fun _ _=>rfl
 ·rw[List.length_append,List.length_set,List.length_singleton]
  rcases zG hlt hx with ⟨rfl,rfl⟩ | ⟨_,rfl⟩ | ⟨_,hj,hx0⟩
  ·intro q m hq; cases hq
  ·trivial
  ·exact HO.ws_mono (Nat.le_succ _) (S.ws j x hx0)
 ·have oldOwn:∀(j:Nat) (x:HO),j<h.length→x.own ((e.setR h.length (e.row i)).setV h.length (fun _=>.slice none 0 0) (fun _=>rfl)) j b→x.own e j b:=fun j x hj hb=>by
   rw[HO.own_agree hj hag] at hb; exact hb
  rcases zG hlt hx1 with ⟨rfl,rfl⟩ | ⟨_,rfl⟩ | ⟨n1,hj1,hy1⟩
  ·rcases zG hlt hx2 with ⟨rfl,rfl⟩ | ⟨_,rfl⟩ | ⟨n2,hj2,hy2⟩
   ·rfl
   ·exact hb2.elim
   ·exact absurd (S.one j2 i x2 _ b hy2 hi (oldOwn j2 x2 hj2 hb2) (newOwn b hb1)) n2
  ·exact hb1.elim
  ·rcases zG hlt hx2 with ⟨rfl,rfl⟩ | ⟨_,rfl⟩ | ⟨n2,hj2,hy2⟩
   ·exact absurd (S.one j1 i x1 _ b hy1 hi (oldOwn j1 x1 hj1 hb1) (newOwn b hb2)) n1
   ·exact hb2.elim
   ·exact S.one j1 j2 x1 x2 b hy1 hy2 (oldOwn j1 x1 hj1 hb1) (oldOwn j2 x2 hj2 hb2)
 ·rcases zG hlt hx with ⟨rfl,rfl⟩ | ⟨_,rfl⟩ | ⟨_,hj,hx0⟩
  ·exact⟨i,_,hi,newOwn b hb⟩
  ·exact hb.elim
  ·rw[HO.own_agree hj hag] at hb
   exact⟨j,x,hx0,hb⟩
theorem FOk.newTn{P:Program}{m0:Nat}{fn:Func}{Q:SV→List HO→Prop}{its:List It}{tm:List (Nat×SV)}{h:List HO}(i:Nat){T0:TypeId}{n:Nat}{c0:Ct}(T1:TypeId)(sz:Nat)(cf:Nat→Nat→qB)(hi:h[i]?=some (.rowc T0 1 n c0))(hc:∀ k,k<n→c0.at k 0=.v (.slice none 0 0))(hx:zZ P m0 fn Q its ⟨zCv i h.length tm,(h.set i .gone++[HO.tbl T0 T1 sz n (fun _=>(0,cf)) none]).map (qNx i h.length)⟩):zZ P m0 fn Q its ⟨tm,h⟩:=by
 intro F hF w0 hw0 e a w S T0'
 have hlt:=(List.getElem?_eq_some_iff.1 hi).1
 have hag:zE h.length e ((e.setR h.length (e.row i)).setV h.length (fun _=>.slice none 0 0) (fun _=>rfl)):=(zQ e h.length (e.row i)).trans (jC (e.setR h.length (e.row i)) h.length _ _) (Nat.le_refl _)
 have hl:(h.set i HO.gone++[HO.tbl T0 T1 sz n (fun _=>(0,cf)) none]).length=h.length+1:=by simp
 have hv:((e.setR h.length (e.row i)).setV h.length (fun _=>.slice none 0 0) (fun _=>rfl)).row h.length=((e.setR h.length (e.row i)).setV h.length (fun _=>.slice none 0 0) (fun _=>rfl)).row i:=by
  rw[(hag.1 i hlt).2.1]; simp [Env.setR,Env.setV]
 have S2:=qPo hF (S.newTn hF T1 sz cf hi hc) i h.length (by rw[hl]; exact Nat.lt_succ_self _) hv
 refine hx F hF w0 hw0 _ a w S2 ⟨T0'.size,T0'.defers,fun t s hs=>?_,fun t s hs=>?_⟩
 ·obtain⟨s0,q1,rfl⟩:=qGr i _ tm hs
  rw[qJs i _ _ hv,T0'.get t s0 q1,jK hag s0 (T0'.wsc t s0 q1)]
 ·obtain⟨s0,q1,rfl⟩:=qGr i _ tm hs
  show ws ((h.set i HO.gone++[HO.tbl T0 T1 sz n (fun _=>(0,cf)) none]).map (qNx i h.length)).length _
  rw[List.length_map,hl]
  exact qSg i _ _ (Nat.lt_succ_self _) s0 (yR (Nat.le_succ _) s0 (T0'.wsc t s0 q1))
end Go.Sx
/- Plans: plain data. -/
namespace Go.Pl
open Go.Sx
structure Pt where
  kd : Int
  co : Int
  of : Int
  v : Nat
def dPt:Pt:=⟨0,0,0,0⟩
def gPt(l:List Pt)(k:Nat):Pt:=l.getD k dPt
noncomputable def qDf(x:Pt)(j:Nat):qB :=
 match j with
 | 0=>.v (.int .i64 x.kd)
 | 1=>.v (.int .i64 x.co)
 | 2=>.v (.int .i64 x.of)
 | 3=>.v (.int .u64 (qC x.v 0:Nat))
 | 4=>.v (.int .u64 (qC x.v 1:Nat))
 | 5=>.v (.int .u64 (qC x.v 2:Nat))
 | 6=>.v (.int .u64 (qC x.v 3:Nat))
 | _=>.v undef
noncomputable def cPt(l:List Pt):Nat→Nat→qB:=fun k j=>qDf (gPt l k) j
def gRg(l:List (Int×List Pt))(k:Nat):Int×List Pt:=l.getD k (0,[])
noncomputable def qYe(x:Int×List Pt)(j:Nat):qB :=
 match j with
 | 0=>.v (.int .i64 x.1)
 | 1=>.s false 7 x.2.length (cPt x.2)
 | _=>.v undef
noncomputable def cRg(l:List (Int×List Pt)):Nat→Nat→qB:=fun k j=>qYe (gRg l k) j
def gTa(l:List (Int×List Nat))(k:Nat):Int×List Nat:=l.getD k (0,[])
noncomputable def qYl(x:Int×List Nat)(j:Nat):qB :=
 match j with
 | 0=>.v (.int .i64 x.1)
 | 1=>.s false 4 x.2.length (cE x.2)
 | _=>.v undef
noncomputable def cTa(l:List (Int×List Nat)):Nat→Nat→qB:=fun k j=>qYl (gTa l k) j
def dLk:(Int×Int×Int)×(Int×Int×Int):=((0,0,0),(0,0,0))
def gLk(l:List ((Int×Int×Int)×(Int×Int×Int)))(k:Nat):(Int×Int×Int)×(Int×Int×Int):=l.getD k dLk
def zDm(x:(Int×Int×Int)×(Int×Int×Int))(j:Nat):qB :=
 match j with
 | 0=>.v (.int .i64 x.1.1)
 | 1=>.v (.int .i64 x.1.2.1)
 | 2=>.v (.int .i64 x.1.2.2)
 | 3=>.v (.int .i64 x.2.1)
 | 4=>.v (.int .i64 x.2.2.1)
 | 5=>.v (.int .i64 x.2.2.2)
 | _=>.v undef
def cLk(l:List ((Int×Int×Int)×(Int×Int×Int))):Nat→Nat→qB:=fun k j=>zDm (gLk l k) j
structure Pln where
  rg : List (Int × List Pt)
  tb : List (Int × List Nat)
  lk : List ((Int × Int × Int) × (Int × Int × Int))
  is : List (List Nat)
def Pt.ok(x:Pt):Prop:=i64 x.kd∧i64 x.co∧i64 x.of∧x.v<top
def zNm(l:List Pt):Prop:=(∀ x∈l,x.ok)∧l.length*56≤140737488351232
structure Pln.ok (p : Pln) : Prop where
  r : (∀ x ∈ p.rg, i64 x.1 ∧ zNm x.2) ∧ p.rg.length * 32 ≤ 140737488351232
  t : (∀ x ∈ p.tb, i64 x.1 ∧ (∀ v ∈ x.2, v < top) ∧ x.2.length * 32 ≤ 140737488351232) ∧ p.tb.length * 32 ≤ 140737488351232
  l : (∀ x ∈ p.lk, (i64 x.1.1 ∧ i64 x.1.2.1 ∧ i64 x.1.2.2) ∧ i64 x.2.1 ∧ i64 x.2.2.1 ∧ i64 x.2.2.2) ∧ p.lk.length * 48 ≤ 140737488351232
  i : okT p.is
structure lPn (n0 n1 n2 n3 : Nat) (c0 c1 c2 c3 : Nat → Nat → qB) (k : Pln → Prop) : Prop where
  h : ∃ p : Pln, (n0 = p.rg.length ∧ IsC n0 2 c0 (cRg p.rg)) ∧ (n1 = p.tb.length ∧ IsC n1 2 c1 (cTa p.tb)) ∧ (n2 = p.lk.length ∧ IsC n2 6 c2 (cLk p.lk)) ∧ (n3 = p.is.length ∧ IsC n3 1 c3 (cT p.is)) ∧ p.ok ∧ k p
theorem zFz(p:Pln)(hp:p.ok){k:Pln→Prop}(h:k p):lPn p.rg.length p.tb.length p.lk.length p.is.length (cRg p.rg) (cTa p.tb) (cLk p.lk) (cT p.is) k :=
 ⟨⟨p,⟨rfl,IsC.refl _ _ _⟩,⟨rfl,IsC.refl _ _ _⟩,⟨rfl,IsC.refl _ _ _⟩,⟨rfl,IsC.refl _ _ _⟩,hp,h⟩⟩
theorem qJz{l:List Pt}{k:Nat}(h:k<l.length):gPt l k∈l:=by
 rw[gPt,List.getD_eq_getElem?_getD,List.getElem?_eq_getElem h]; exact List.getElem_mem h
theorem xK{l:List (Int×List Pt)}{k:Nat}(h:k<l.length):gRg l k∈l:=by
 rw[gRg,List.getD_eq_getElem?_getD,List.getElem?_eq_getElem h]; exact List.getElem_mem h
theorem qBd{l:List (Int×List Nat)}{k:Nat}(h:k<l.length):gTa l k∈l:=by
 rw[gTa,List.getD_eq_getElem?_getD,List.getElem?_eq_getElem h]; exact List.getElem_mem h
theorem zHu{l:List ((Int×Int×Int)×(Int×Int×Int))}{k:Nat}(h:k<l.length):gLk l k∈l:=by
 rw[gLk,List.getD_eq_getElem?_getD,List.getElem?_eq_getElem h]; exact List.getElem_mem h
theorem qCj{l:List Pt}{k:Nat}(h:k<l.length):l.drop k=gPt l k::l.drop (k+1):=by
 rw[List.drop_eq_getElem_cons h,gPt,List.getD_eq_getElem?_getD,List.getElem?_eq_getElem h]; rfl
theorem qMh{l:List (Int×List Pt)}{k:Nat}(h:k<l.length):l.drop k=gRg l k::l.drop (k+1):=by
 rw[List.drop_eq_getElem_cons h,gRg,List.getD_eq_getElem?_getD,List.getElem?_eq_getElem h]; rfl
theorem qHs{l:List (Int×List Nat)}{k:Nat}(h:k<l.length):l.drop k=gTa l k::l.drop (k+1):=by
 rw[List.drop_eq_getElem_cons h,gTa,List.getD_eq_getElem?_getD,List.getElem?_eq_getElem h]; rfl
theorem zEx{l:List ((Int×Int×Int)×(Int×Int×Int))}{k:Nat}(h:k<l.length):l.drop k=gLk l k::l.drop (k+1):=by
 rw[List.drop_eq_getElem_cons h,gLk,List.getD_eq_getElem?_getD,List.getElem?_eq_getElem h]; rfl
def zO(l:List Nat)(r v:Nat):List Nat:=(l++List.replicate (r+1-l.length) 0).set r v
theorem qUl(l:List Nat)(r v:Nat):(zO l r v).length=max l.length (r+1):=by
 rw[zO,List.length_set,List.length_append,List.length_replicate]; omega
theorem zGo(l:List Nat)(r v k:Nat)(h:r<l.length):gE (l.set r v) k=if k=r then v else gE l k:=by
 simp only[gE,List.getD_eq_getElem?_getD,List.getElem?_set]
 by_cases hk:r=k
 ·subst hk; rw[if_pos rfl,if_pos h,if_pos rfl]; rfl
 ·rw[if_neg hk,if_neg (fun hh=>hk hh.symm)]
theorem zDj(l:List Nat)(r v:Nat)(h:r<l.length):IsC l.length 4 (Ct.upd (Ct.fn (cE l)) r 0 [qB.v (.int .u64 (qC v 0:Nat)),qB.v (.int .u64 (qC v 1:Nat)),qB.v (.int .u64 (qC v 2:Nat)),qB.v (.int .u64 (qC v 3:Nat))]).at (Ct.fn (cE (l.set r v))).at:=by
 intro k hk y hy
 show qNp (cE l) r 0 _ k y=cE (l.set r v) k y
 rw[qNp]
 show _=qB.v (.int .u64 (qC (gE (l.set r v) k) y:Nat))
 rw[zGo l r v k h]
 by_cases hkj:k=r
 ·subst hkj
  rw[Nat.beq_refl,Bool.true_and,show Nat.ble 0 y=true from rfl,cond_true,Nat.sub_zero,if_pos rfl]
  match y,hy with
  | 0,_=>rfl
  | 1,_=>rfl
  | 2,_=>rfl
  | 3,_=>rfl
 ·have hb:Nat.beq k r=false:=by
   rw[Bool.eq_false_iff]
   intro hh
   exact hkj (Nat.eq_of_beq_eq_true hh)
  rw[hb,Bool.false_and,cond_false,if_neg hkj]
  rfl
end Go.Pl
namespace Go.Proofs.Ytlmjdcbhpffanaa
open Go.Sx Go.Pl
set_option linter.unusedVariables false
set_option maxRecDepth 100000
end Go.Proofs.Ytlmjdcbhpffanaa
/- Puts of a plan: plain. -/
namespace Go.Pl
open Go.Sx
structure lPt (ck : Nat → Nat → qB) (k : Pt → Prop) : Prop where
  h : ∃ x : Pt, IsC 1 7 ck (fun _ j => qDf x j) ∧ k x
theorem zNr(x:Pt){k:Pt→Prop}(h:k x):lPt (lc 7 [.v (.int .i64 x.1),.v (.int .i64 x.2),.v (.int .i64 x.3),.v (.int .u64 (qC x.4 0:Nat)),.v (.int .u64 (qC x.4 1:Nat)),.v (.int .u64 (qC x.4 2:Nat)),.v (.int .u64 (qC x.4 3:Nat))]) k:=⟨⟨x,fun i hi j hj=>by
 have:i=0:=by omega
 subst i
 match j,hj with
 | 0,_=>rfl
 | 1,_=>rfl
 | 2,_=>rfl
 | 3,_=>rfl
 | 4,_=>rfl
 | 5,_=>rfl
 | 6,_=>rfl,h⟩⟩
structure lTa (n : Nat) (c : Nat → Nat → qB) (k : List (Int × List Nat) → Prop) : Prop where
  h : ∃ l : List (Int × List Nat), n = l.length ∧ IsC n 2 c (cTa l) ∧ l.length ≤ 17592186043904 ∧ k l
def qWt(co:Int)(t:Int×List Nat):Bool:=t.1==co
theorem jQ{Q:Bool→Prop}{b x y:Bool}{X Y:Prop}(h:Q (bif b then x else y))(hx:Q x→X)(hy:Q y→Y):bif b then X else Y:=by
 cases b
 ·exact hy h
 ·exact hx h
theorem zJu(kd co fr:Int){k:Pt→Prop}(h:k ⟨kd,co,fr,0⟩):lPt (lc 7 [.v (.int .i64 kd),.v (.int .i64 co),.v (.int .i64 fr),.v (.int .u64 0),.v (.int .u64 0),.v (.int .u64 0),.v (.int .u64 0)]) k:=by
 have:=zNr ⟨kd,co,fr,0⟩ h
 simp only[qCh] at this
 exact this
theorem qTx{q:Int×List Nat→Bool}{l:List (Int×List Nat)}{k:Nat}(h:k<l.length):qX q k (l.drop k)=if q (gTa l k) then(k:Int) else qX q (k+1) (l.drop (k+1)):=by
 rw[qHs h,qX]
structure lSh (fx ad ins : Int) (n0 n1 n2 n3 m0 m1 m2 m3 : Nat) (c0 c1 c2 c3 d0 d1 d2 d3 : Nat → Nat → qB) (k : Cir → Pln → Prop) : Prop where
  h : lC fx ad ins n0 n1 n2 n3 c0 c1 c2 c3 fun c => lPn m0 m1 m2 m3 d0 d1 d2 d3 fun p => k c p
theorem wP(c:Cir)(hc:c.ok)(p:Pln)(hp:p.ok){k:Cir→Pln→Prop}(h:k c p):lSh c.fx c.ad c.ins c.nodes.length c.gates.length c.looks.length c.eqs.length p.rg.length p.tb.length p.lk.length p.is.length (cN c.nodes) (cI c.gates) (cL c.looks) (cK c.eqs) (cRg p.rg) (cTa p.tb) (cLk p.lk) (cT p.is) k:=⟨qLj c hc (zFz p hp h)⟩
def qTt(c:Cir)(p:Pln)(rows kd co fr:Int):Bool:=bif !yN [[(2:Int)],[(3:Int)]] [kd] then false else bif decide (co<(0:Int)) then false else bif decide (zM [[(2:Int)],[(3:Int)]] (zA [[(2:Int)]] (zA [] [] [(2:Int)] c.1) [(3:Int)] c.2) [kd]≤co) then false else bif decide (fr<(0:Int)) then false else bif decide (rows≤fr) then false else bif !kd==(2:Int) then true else !p.tb.any (qWt co)
end Go.Pl
namespace Go.Proofs.Ytlmjdcbhpffanaa
open Go.Sx Go.Pl
set_option linter.unusedVariables false
set_option maxRecDepth 100000
end Go.Proofs.Ytlmjdcbhpffanaa
/- Is a put in a table's column? -/
namespace Go.Proofs.Ytlmjdcbhpffanaa
open Go.Sx Go.Pl
set_option linter.unusedVariables false
set_option maxRecDepth 100000
theorem zZf(b:Bool)(l:List (Int×List Nat))(x:Pt)(K:List It→St→Prop)(R:SV→List HO→Prop):W (xwp Try.prog X K74 [(106,[])] 60 (qO Try.f112 [] [⟨[0,1,0,1],[8,7,0,1],[]⟩]) [] [.at []] ⟨qQ 0 [.x 0 [],.fn (.func 106) [] [.x 1 []]],[.ext b (.s false 2 l.length (cTa l)),.ext true (.s true 7 1 (fun _ j=>qDf x j))]⟩ K R)=W (K [.at [0,1,0,1],.blk 0,.at [1,1]] (St.mk [(8,.v (qA 0)),(7,.v (qA (↑l.length:Int))),(0,.x 0 []),(1,SV.fn (Fn.func 106) [] [.x 1 []])] [.ext b (.s false 2 l.length (cTa l)),.ext true (.s true 7 1 fun(x_1 j:Nat)=>qDf x j)])):=by kernel_rfl
theorem zTn(b:Bool)(l:List (Int×List Nat))(x:Pt)(k M:Nat)(K:List It→St→Prop)(R:SV→List HO→Prop):W (xwp Try.prog X K74 [(106,[])] 60 (qO Try.f112 [] [⟨[0,1,0,1],[8,7,0,1],[]⟩]) [] (.at [0,0,1,0,1]::.rnd [0,0,1,0,1] M::[.blk 0,.at [1,1]]) ⟨[(8,.v (.int .i64 (k:Int))),(7,.v (.int .i64 (l.length:Int))),(0,.x 0 []),(1,.fn (.func 106) [] [.x 1 []])],[.ext b (.s false 2 l.length (cTa l)),.ext true (.s true 7 1 (fun _ j=>qDf x j))]⟩ K R)=W (bif decide ((↑k:Int)<(↑l.length:Int)) then(∀ M:Mem,(0:Int)≤(↑k:Int)∧(↑k:Int)<(↑l.length:Int))∧(∀ M:Mem,k<List.length l)∧(∀ M:Mem,k<List.length l)∧(∀ M:Mem,0<1)∧(∀ M:Mem,0<1)∧bif(gTa l k).1==x.2 then R (.v (qA (↑k:Int))) [] else K [.rnd [0,0,1,0,1] M,.blk 0,.at [1,1]] (St.mk [(8,.v (qA (IntKind.wrap .i64 ((↑k:Int)+(1:Int))))),(7,.v (qA (↑l.length:Int))),(0,.x 0 []),(1,SV.fn (Fn.func 106) [] [.x 1 []])] [.ext b (.s false 2 l.length (cTa l)),.ext true (.s true 7 1 fun(x_1 j:Nat)=>qDf x j)]) else R (.v (qA (-1))) []):=by kernel_rfl
theorem qUf(b:Bool)(l:List (Int×List Nat))(x:Pt)(hb:l.length≤17592186043904)(Q:SV→List HO→Prop):∀(d k:Nat),k+d=l.length→Q (.v (.int .i64 (qX (qWt x.co) k (l.drop k)))) [] →
  FOk Try.prog Try.f112 Q (.rnd [0,0,1,0,1] (d+1)::[.blk 0,.at [1,1]]) ⟨[(8,.v (.int .i64 (k:Int))),(7,.v (.int .i64 (l.length:Int))),(0,.x 0 []),(1,.fn (.func 106) [] [.x 1 []])],[.ext b (.s false 2 l.length (cTa l)),.ext true (.s true 7 1 (fun _ j=>qDf x j))]⟩
 | 0,k,hd,hq=>by
  refine FOk.rnd (qE hm 60 ((zTn b l x k 0 _ _).mpr ⟨?_⟩))
  rw[qF,if_neg (by omega)]
  rw[show k=l.length by omega,List.drop_length] at hq
  exact hq
 | d+1,k,hd,hq=>by
  have hk:k<l.length:=by omega
  refine FOk.rnd (qE hm 60 ((zTn b l x k (d+1) _ _).mpr ⟨?_⟩))
  rw[qF,if_pos (by omega),qN _ (by omega)]
  rw[qTx hk,qWt] at hq
  repeat' (refine And.intro (fun _=>by omega) ?_)
  refine qK (fun h=>?_) (fun h=>?_)
  ·rw[h] at hq; exact hq
  ·rw[h] at hq; exact qUf b l x hb Q d (k+1) (by omega) hq
theorem zYu:Try.f112.body.isSome=true:=by kernel_rfl
theorem zXh:Nat.ble [SV.x 0 [],.fn (.func 106) [] [.x 1 []]].length Try.f112.ntmps=true:=by kernel_rfl
theorem zNk(b:Bool)(l:List (Int×List Nat))(x:Pt)(hb:l.length≤17592186043904)(Q:SV→List HO→Prop)(hq:Q (.v (.int .i64 (qX (qWt x.co) 0 l))) []):qI Try.prog 112 [.x 0 [],.fn (.func 106) [] [.x 1 []]] [.ext b (.s false 2 l.length (cTa l)),.ext true (.s true 7 1 (fun _ j=>qDf x j))] Q:=by
 refine qJ Try.func112 zYu ?_ ?_
 ·exact zXh
 refine qE hm 60 ((zZf b l x _ _).mpr ⟨?_⟩)
 exact FOk.loop (l.length+1) (by kernel_rfl) (qUf b l x hb Q l.length 0 (by omega) hq)
noncomputable def zPv:List SV→List HO→Option ((SV→List HO→Prop)→Prop)
 | [.x 0 [],.fn (.func 106) [] [.x 1 []]],[.ext _ (.s false 2 n c),.ext true (.s true 7 1 ck)]=>some fun Q=>lTa n c fun l=>lPt ck fun x=>Q (.v (.int .i64 (qX (qWt x.co) 0 l))) []
 | _,_=>none
theorem zIj(args:List SV)(h:List HO)(tr:(SV→List HO→Prop)→Prop)(Q:SV→List HO→Prop)(hc:zPv args h=some tr)(ht:tr Q):qI Try.prog 112 args h Q:=by
 unfold zPv at hc
 split at hc
 ·simp only[sI] at hc
  subst hc
  obtain⟨l,rfl,he,hb,hk⟩:=ht.h
  obtain⟨x,e1,hq⟩:=hk.h
  exact qI.ac (zNk _ l x hb Q hq) ⟨⟨rfl,rfl,rfl,rfl,he⟩,⟨rfl,rfl,rfl,rfl,e1⟩,trivial⟩
 ·cases hc
noncomputable def zVb:Con Try.prog:=K74.add 112 zPv zIj
end Go.Proofs.Ytlmjdcbhpffanaa
/- Is a put right? -/
namespace Go.Proofs.Ytlmjdcbhpffanaa
open Go.Sx Go.Pl
set_option linter.unusedVariables false
set_option maxRecDepth 100000
theorem zZh(c:Cir)(p:Pln)(u rows:Int)(ps:List Pt)(kd co fr:Int)(K:List It→St→Prop)(R:SV→List HO→Prop):W (xwp Try.prog X zVb [(105,[])] 60 (qO Try.f89 [] []) [] [.at []] ⟨qQ 0 [.agg [.v (.int .i64 c.1),.v (.int .i64 c.2),.v (.int .i64 c.3),.x 0 [],.x 1 [],.x 2 [],.x 3 [],.x 4 [],.x 5 [],.x 6 [],.x 7 [],.v (.int .i64 u)],.agg [.v (.int .i64 rows),.x 8 []],.agg [.v (.int .i64 kd),.v (.int .i64 co),.v (.int .i64 fr),.v (.int .u64 0),.v (.int .u64 0),.v (.int .u64 0),.v (.int .u64 0)]],[.ext false (.s false 7 c.4.length (cN c.4)),.ext false (.s false 1 c.5.length (cI c.5)),.ext false (.s false 2 c.6.length (cL c.6)),.ext false (.s false 2 c.7.length (cK c.7)),.ext false (.s false 2 p.1.length (cRg p.1)),.ext false (.s false 2 p.2.length (cTa p.2)),.ext false (.s false 6 p.3.length (cLk p.3)),.ext false (.s false 1 p.4.length (cT p.4)),.ext false (.s false 7 ps.length (cPt ps))]⟩ K R)=W (bif !yN [[(2:Int)],[(3:Int)]] [kd] then R (.v (.bool false)) [] else bif decide (co<(0:Int)) then R (.v (.bool false)) [] else bif decide (zM [[(2:Int)],[(3:Int)]] (zA [[(2:Int)]] (zA [] [] [(2:Int)] c.1) [(3:Int)] c.2) [kd]≤co) then R (.v (.bool false)) [] else bif decide (fr<(0:Int)) then R (.v (.bool false)) [] else bif decide (rows≤fr) then R (.v (.bool false)) [] else bif !kd==(2:Int) then R (.v (.bool true)) [] else lTa p.2.length (cTa p.2) fun(l:List (Int×List Nat))=>lPt (lc 7 [.v (qA kd),.v (qA co),.v (qA fr),.v (qD 0),.v (qD 0),.v (qD 0),.v (qD 0)]) fun(x:Pt)=>R (.v (.bool !decide ((0:Int)≤qX (qWt x.2) 0 l))) []):=by kernel_rfl
theorem jAk:Try.f89.body.isSome=true:=by kernel_rfl
theorem zYs(c:Cir)(u rows kd co fr:Int):Nat.ble ([.agg [.v (.int .i64 c.1),.v (.int .i64 c.2),.v (.int .i64 c.3),.x 0 [],.x 1 [],.x 2 [],.x 3 [],.x 4 [],.x 5 [],.x 6 [],.x 7 [],.v (.int .i64 u)],.agg [.v (.int .i64 rows),.x 8 []],.agg [.v (.int .i64 kd),.v (.int .i64 co),.v (.int .i64 fr),.v (.int .u64 0),.v (.int .u64 0),.v (.int .u64 0),.v (.int .u64 0)]]:List SV).length Try.f89.ntmps=true:=by kernel_rfl
theorem zLs(c:Cir)(p:Pln)(hp:p.ok)(u rows:Int)(ps:List Pt)(kd co fr:Int)(Q:SV→List HO→Prop)(hq:Q (.v (.bool (qTt c p rows kd co fr))) []):qI Try.prog 89 [.agg [.v (.int .i64 c.1),.v (.int .i64 c.2),.v (.int .i64 c.3),.x 0 [],.x 1 [],.x 2 [],.x 3 [],.x 4 [],.x 5 [],.x 6 [],.x 7 [],.v (.int .i64 u)],.agg [.v (.int .i64 rows),.x 8 []],.agg [.v (.int .i64 kd),.v (.int .i64 co),.v (.int .i64 fr),.v (.int .u64 0),.v (.int .u64 0),.v (.int .u64 0),.v (.int .u64 0)]] [.ext false (.s false 7 c.4.length (cN c.4)),.ext false (.s false 1 c.5.length (cI c.5)),.ext false (.s false 2 c.6.length (cL c.6)),.ext false (.s false 2 c.7.length (cK c.7)),.ext false (.s false 2 p.1.length (cRg p.1)),.ext false (.s false 2 p.2.length (cTa p.2)),.ext false (.s false 6 p.3.length (cLk p.3)),.ext false (.s false 1 p.4.length (cT p.4)),.ext false (.s false 7 ps.length (cPt ps))] Q:=by
 refine qJ Try.func89 jAk ?_ ?_
 ·exact zYs c u rows kd co fr
 have h1:=hp.t.2
 refine qE hm 60 ((zZh c p u rows ps kd co fr _ _).mpr ⟨?_⟩)
 refine jQ (Q:=fun v=>Q (.v (.bool v)) []) hq id (fun hq=>jQ (Q:=fun v=>Q (.v (.bool v)) []) hq id (fun hq=>jQ (Q:=fun v=>Q (.v (.bool v)) []) hq id (fun hq=>jQ (Q:=fun v=>Q (.v (.bool v)) []) hq id (fun hq=>jQ (Q:=fun v=>Q (.v (.bool v)) []) hq id (fun hq=>jQ (Q:=fun v=>Q (.v (.bool v)) []) hq id (fun hq=>?_))))))
 refine⟨⟨p.tb,rfl,IsC.refl _ _ _,by omega,zJu kd co fr ?_⟩⟩
 rw[zU]
 exact hq
noncomputable def zPl:List SV→List HO→Option ((SV→List HO→Prop)→Prop)
 | [.agg [.v (.int .i64 fx),.v (.int .i64 ad),.v (.int .i64 ins),.x 0 [],.x 1 [],.x 2 [],.x 3 [],.x 4 [],.x 5 [],.x 6 [],.x 7 [],.v (.int .i64 u)],.agg [.v (.int .i64 rows),.x 8 []],.agg [.v (.int .i64 kd),.v (.int .i64 co),.v (.int .i64 fr),.v (.int .u64 0),.v (.int .u64 0),.v (.int .u64 0),.v (.int .u64 0)]],[.ext false (.s false 7 n0 c0),.ext false (.s false 1 n1 c1),.ext false (.s false 2 n2 c2),.ext false (.s false 2 n3 c3),.ext false (.s false 2 m0 d0),.ext false (.s false 2 m1 d1),.ext false (.s false 6 m2 d2),.ext false (.s false 1 m3 d3),.ext false (.s false 7 q cq)] =>
  some fun Q=>lSh fx ad ins n0 n1 n2 n3 m0 m1 m2 m3 c0 c1 c2 c3 d0 d1 d2 d3 fun c p=>(∃ ps:List Pt,q=ps.length∧IsC q 7 cq (cPt ps))∧Q (.v (.bool (qTt c p rows kd co fr))) []
 | _,_=>none
theorem zIe(args:List SV)(h:List HO)(tr:(SV→List HO→Prop)→Prop)(Q:SV→List HO→Prop)(hc:zPl args h=some tr)(ht:tr Q):qI Try.prog 89 args h Q:=by
 unfold zPl at hc
 split at hc
 ·simp only[sI] at hc
  subst hc
  obtain⟨c,rfl,rfl,rfl,⟨rfl,e0⟩,⟨rfl,e1⟩,⟨rfl,e2⟩,⟨rfl,e3⟩,hk,ht2⟩:=ht.h.h
  obtain⟨p,⟨rfl,e4⟩,⟨rfl,e5⟩,⟨rfl,e6⟩,⟨rfl,e7⟩,hp,⟨ps,rfl,e8⟩,hq⟩:=ht2.h
  exact qI.ac (zLs c p hp _ _ ps _ _ _ Q hq) ⟨⟨rfl,rfl,rfl,rfl,e0⟩,⟨rfl,rfl,rfl,rfl,e1⟩,⟨rfl,rfl,rfl,rfl,e2⟩,⟨rfl,rfl,rfl,rfl,e3⟩,⟨rfl,rfl,rfl,rfl,e4⟩,⟨rfl,rfl,rfl,rfl,e5⟩,⟨rfl,rfl,rfl,rfl,e6⟩,⟨rfl,rfl,rfl,rfl,e7⟩,⟨rfl,rfl,rfl,rfl,e8⟩,trivial⟩
 ·cases hc
noncomputable def zEn:Con Try.prog:=zVb.add 89 zPl zIe
end Go.Proofs.Ytlmjdcbhpffanaa
/- Regions and tables of a plan: plain. -/
namespace Go.Pl
open Go.Sx
def ptK(x:Pt):List Int:=[x.1,x.2,x.3,(0:Int),(0:Int),(0:Int),(0:Int)]
def qYf(c:Cir)(p:Pln)(rows:Int):List (List Int)→List Pt→Bool
 | met,x::t=>bif yN met (ptK x) then false else bif !qTt c p rows x.1 x.2 x.3 then false else qYf c p rows (zK met (ptK x)) t
 | _,[]=>true
def qSi(c:Cir)(p:Pln)(r:Int×List Pt):Bool:=bif decide (r.1<(1:Int)) then false else bif decide ((64:Int)<(r.2.length:Int)) then false else qYf c p r.1 [] r.2
def qNq(fx:Int):List (List Int)→List (Int×List Nat)→Bool
 | met,t::r=>bif yN met [t.1] then false else bif decide (t.1<(0:Int)) then false else bif decide (fx≤t.1) then false else qNq fx (zK met [t.1]) r
 | _,[]=>true
end Go.Pl
namespace Go.Proofs.Ytlmjdcbhpffanaa
open Go.Sx Go.Pl
set_option linter.unusedVariables false
set_option maxRecDepth 100000
end Go.Proofs.Ytlmjdcbhpffanaa
/- Regions and tables of a plan: are they right? -/
namespace Go.Proofs.Ytlmjdcbhpffanaa
open Go.Sx Go.Pl
set_option linter.unusedVariables false
set_option maxRecDepth 100000
theorem jAb(c:Cir)(p:Pln)(u rows:Int)(ps:List Pt)(K:List It→St→Prop)(R:SV→List HO→Prop):W (xwp Try.prog X zEn [] 60 (qO Try.f61 [] [⟨[0,1,0,1,1,1],[23,22,21,5,3,2],[]⟩]) [] [.at []] ⟨qQ 0 [.agg [.v (.int .i64 c.1),.v (.int .i64 c.2),.v (.int .i64 c.3),.x 0 [],.x 1 [],.x 2 [],.x 3 [],.x 4 [],.x 5 [],.x 6 [],.x 7 [],.v (.int .i64 u)],.agg [.v (.int .i64 rows),.x 8 []]],[.ext false (.s false 7 c.4.length (cN c.4)),.ext false (.s false 1 c.5.length (cI c.5)),.ext false (.s false 2 c.6.length (cL c.6)),.ext false (.s false 2 c.7.length (cK c.7)),.ext false (.s false 2 p.1.length (cRg p.1)),.ext false (.s false 2 p.2.length (cTa p.2)),.ext false (.s false 6 p.3.length (cLk p.3)),.ext false (.s false 1 p.4.length (cT p.4)),.ext false (.s false 7 ps.length (cPt ps))]⟩ K R)=W (bif decide (rows<(1:Int)) then R (.v (.bool false)) [] else bif decide ((64:Int)<(↑ps.length:Int)) then R (.v (.bool false)) [] else K [.at [0,1,0,1,1,1],.blk 0,.at [1,1,1,1]] (St.mk [(23,.v (qA 0)),(22,.v (qA (↑ps.length:Int))),(21,.x 0 []),(5,.m 1),(3,.p 2 0),(2,.p 3 0)] [.ext false (.s false 7 ps.length (cPt ps)),.mp true [IntKind.i64,IntKind.i64,IntKind.i64,IntKind.u64,IntKind.u64,IntKind.u64,IntKind.u64] [] Mc.unit,.cells [.v (qA rows),.x 0 []] 43,.cells [.v (qA c.1),.v (qA c.2),.v (qA c.3),.x 4 [],.x 5 [],.x 6 [],.x 7 [],.x 8 [],.x 9 [],.x 10 [],.x 11 [],.v (qA u)] 82,.ext false (.s false 7 c.4.length (cN c.4)),.ext false (.s false 1 c.5.length (cI c.5)),.ext false (.s false 2 c.6.length (cL c.6)),.ext false (.s false 2 c.7.length (cK c.7)),.ext false (.s false 2 p.1.length (cRg p.1)),.ext false (.s false 2 p.2.length (cTa p.2)),.ext false (.s false 6 p.3.length (cLk p.3)),.ext false (.s false 1 p.4.length (cT p.4))])):=by kernel_rfl
theorem qVw(c:Cir)(p:Pln)(u:Int)(K:List It→St→Prop)(R:SV→List HO→Prop):W (xwp Try.prog X zEn [] 60 (qO Try.f57 [] [⟨[0,1,0,1,1],[13,12,11,3,1],[]⟩]) [] [.at []] ⟨qQ 0 [.agg [.v (.int .i64 c.1),.v (.int .i64 c.2),.v (.int .i64 c.3),.x 0 [],.x 1 [],.x 2 [],.x 3 [],.x 4 [],.x 5 [],.x 6 [],.x 7 [],.v (.int .i64 u)]],[.ext false (.s false 7 c.4.length (cN c.4)),.ext false (.s false 1 c.5.length (cI c.5)),.ext false (.s false 2 c.6.length (cL c.6)),.ext false (.s false 2 c.7.length (cK c.7)),.ext false (.s false 2 p.1.length (cRg p.1)),.ext false (.s false 2 p.2.length (cTa p.2)),.ext false (.s false 6 p.3.length (cLk p.3)),.ext false (.s false 1 p.4.length (cT p.4))]⟩ K R)=W (K [.at [0,1,0,1,1],.blk 0,.at [1,1,1]] (St.mk [(13,.v (qA 0)),(12,.v (qA (↑p.2.length:Int))),(11,.x 0 []),(3,.m 1),(1,.p 2 0)] [.ext false (.s false 2 p.2.length (cTa p.2)),.mp false [IntKind.i64] [] Mc.unit,.cells [.v (qA c.1),.v (qA c.2),.v (qA c.3),.x 3 [],.x 4 [],.x 5 [],.x 6 [],.x 7 [],.x 0 [],.x 8 [],.x 9 [],.v (qA u)] 82,.ext false (.s false 7 c.4.length (cN c.4)),.ext false (.s false 1 c.5.length (cI c.5)),.ext false (.s false 2 c.6.length (cL c.6)),.ext false (.s false 2 c.7.length (cK c.7)),.ext false (.s false 2 p.1.length (cRg p.1)),.ext false (.s false 6 p.3.length (cLk p.3)),.ext false (.s false 1 p.4.length (cT p.4))])):=by kernel_rfl
theorem zSj(c:Cir)(p:Pln)(u rows:Int)(ps:List Pt)(kl:List (List Int))(k M:Nat)(K:List It→St→Prop)(R:SV→List HO→Prop):W (xwp Try.prog X zEn [] 60 (qO Try.f61 [] [⟨[0,1,0,1,1,1],[23,22,21,5,3,2],[]⟩]) [] (.at [0,0,1,0,1,1,1]::.rnd [0,0,1,0,1,1,1] M::[.blk 0,.at [1,1,1,1]]) (St.mk [(23,.v (qA (k:Int))),(22,.v (qA (↑ps.length:Int))),(21,.x 0 []),(5,.m 1),(3,.p 2 0),(2,.p 3 0)] [.ext false (.s false 7 ps.length (cPt ps)),.mp true [IntKind.i64,IntKind.i64,IntKind.i64,IntKind.u64,IntKind.u64,IntKind.u64,IntKind.u64] kl Mc.unit,.cells [.v (qA rows),.x 0 []] 43,.cells [.v (qA c.1),.v (qA c.2),.v (qA c.3),.x 4 [],.x 5 [],.x 6 [],.x 7 [],.x 8 [],.x 9 [],.x 10 [],.x 11 [],.v (qA u)] 82,.ext false (.s false 7 c.4.length (cN c.4)),.ext false (.s false 1 c.5.length (cI c.5)),.ext false (.s false 2 c.6.length (cL c.6)),.ext false (.s false 2 c.7.length (cK c.7)),.ext false (.s false 2 p.1.length (cRg p.1)),.ext false (.s false 2 p.2.length (cTa p.2)),.ext false (.s false 6 p.3.length (cLk p.3)),.ext false (.s false 1 p.4.length (cT p.4))]) K R)=W (bif decide ((↑k:Int)<(↑ps.length:Int)) then(∀ M:Mem,(0:Int)≤(↑k:Int)∧(↑k:Int)<(↑ps.length:Int))∧(∀ M:Mem,k<List.length ps)∧(∀ M:Mem,0+7≤7)∧(∀ M:Mem,7≤7)∧(∀ M:Mem,0≤0)∧bif yN kl [(gPt ps k).1,(gPt ps k).2,(gPt ps k).3,(0:Int),(0:Int),(0:Int),(0:Int)] then R (.v (.bool false)) [] else lSh c.1 c.2 c.3 c.4.length c.5.length c.6.length c.7.length p.1.length p.2.length p.3.length p.4.length (cN c.4) (cI c.5) (cL c.6) (cK c.7) (cRg p.1) (cTa p.2) (cLk p.3) (cT p.4) fun(c_1:Cir) (p_1:Pln)=>(∃(ps_1:List Pt),List.length ps=List.length ps_1∧IsC ps.length 7 (cPt ps) (cPt ps_1))∧bif !qTt c_1 p_1 rows (gPt ps k).1 (gPt ps k).2 (gPt ps k).3 then R (.v (.bool false)) [] else K [.rnd [0,0,1,0,1,1,1] M,.blk 0,.at [1,1,1,1]] (St.mk [(23,.v (qA (IntKind.wrap .i64 ((↑k:Int)+(1:Int))))),(22,.v (qA (↑ps.length:Int))),(21,.x 0 []),(5,.m 1),(3,.p 2 0),(2,.p 3 0)] [.ext false (.s false 7 ps.length (cPt ps)),.mp true [IntKind.i64,IntKind.i64,IntKind.i64,IntKind.u64,IntKind.u64,IntKind.u64,IntKind.u64] (zK kl [(gPt ps k).1,(gPt ps k).2,(gPt ps k).3,(0:Int),(0:Int),(0:Int),(0:Int)]) Mc.unit,.cells [.v (qA rows),.x 0 []] 43,.cells [.v (qA c.1),.v (qA c.2),.v (qA c.3),.x 4 [],.x 5 [],.x 6 [],.x 7 [],.x 8 [],.x 9 [],.x 10 [],.x 11 [],.v (qA u)] 82,.ext false (.s false 7 c.4.length (cN c.4)),.ext false (.s false 1 c.5.length (cI c.5)),.ext false (.s false 2 c.6.length (cL c.6)),.ext false (.s false 2 c.7.length (cK c.7)),.ext false (.s false 2 p.1.length (cRg p.1)),.ext false (.s false 2 p.2.length (cTa p.2)),.ext false (.s false 6 p.3.length (cLk p.3)),.ext false (.s false 1 p.4.length (cT p.4))]) else R (.v (.bool true)) []):=by kernel_rfl
theorem zTo(c:Cir)(p:Pln)(u:Int)(kl:List (List Int))(k M:Nat)(K:List It→St→Prop)(R:SV→List HO→Prop):W (xwp Try.prog X zEn [] 60 (qO Try.f57 [] [⟨[0,1,0,1,1],[13,12,11,3,1],[]⟩]) [] (.at [0,0,1,0,1,1]::.rnd [0,0,1,0,1,1] M::[.blk 0,.at [1,1,1]]) (St.mk [(13,.v (qA (k:Int))),(12,.v (qA (↑p.2.length:Int))),(11,.x 0 []),(3,.m 1),(1,.p 2 0)] [.ext false (.s false 2 p.2.length (cTa p.2)),.mp false [IntKind.i64] kl Mc.unit,.cells [.v (qA c.1),.v (qA c.2),.v (qA c.3),.x 3 [],.x 4 [],.x 5 [],.x 6 [],.x 7 [],.x 0 [],.x 8 [],.x 9 [],.v (qA u)] 82,.ext false (.s false 7 c.4.length (cN c.4)),.ext false (.s false 1 c.5.length (cI c.5)),.ext false (.s false 2 c.6.length (cL c.6)),.ext false (.s false 2 c.7.length (cK c.7)),.ext false (.s false 2 p.1.length (cRg p.1)),.ext false (.s false 6 p.3.length (cLk p.3)),.ext false (.s false 1 p.4.length (cT p.4))]) K R)=W (bif decide ((↑k:Int)<(↑p.2.length:Int)) then(∀ M:Mem,(0:Int)≤(↑k:Int)∧(↑k:Int)<(↑p.2.length:Int))∧(∀ M:Mem,k<List.length p.2)∧(∀ M:Mem,0+2≤2)∧(∀ M:Mem,0≤0)∧bif yN kl [(gTa p.2 k).1] then R (.v (.bool false)) [] else bif decide ((gTa p.2 k).1<(0:Int)) then R (.v (.bool false)) [] else bif decide (c.1≤(gTa p.2 k).1) then R (.v (.bool false)) [] else K [.rnd [0,0,1,0,1,1] M,.blk 0,.at [1,1,1]] (St.mk [(13,.v (qA (IntKind.wrap .i64 ((↑k:Int)+(1:Int))))),(12,.v (qA (↑p.2.length:Int))),(11,.x 0 []),(3,.m 1),(1,.p 2 0)] [.ext false (.s false 2 p.2.length (cTa p.2)),.mp false [IntKind.i64] (zK kl [(gTa p.2 k).1]) Mc.unit,.cells [.v (qA c.1),.v (qA c.2),.v (qA c.3),.x 3 [],.x 4 [],.x 5 [],.x 6 [],.x 7 [],.x 0 [],.x 8 [],.x 9 [],.v (qA u)] 82,.ext false (.s false 7 c.4.length (cN c.4)),.ext false (.s false 1 c.5.length (cI c.5)),.ext false (.s false 2 c.6.length (cL c.6)),.ext false (.s false 2 c.7.length (cK c.7)),.ext false (.s false 2 p.1.length (cRg p.1)),.ext false (.s false 6 p.3.length (cLk p.3)),.ext false (.s false 1 p.4.length (cT p.4))]) else R (.v (.bool true)) []):=by kernel_rfl
theorem qTw(c:Cir)(hc:c.ok)(p:Pln)(hp:p.ok)(u rows:Int)(ps:List Pt)(hb:ps.length≤64)(Q:SV→List HO→Prop):∀(d k:Nat) (kl:List (List Int)),k+d=ps.length→Q (.v (.bool (qYf c p rows kl (ps.drop k)))) [] →
  FOk Try.prog Try.f61 Q (.rnd [0,0,1,0,1,1,1] (d+1)::[.blk 0,.at [1,1,1,1]]) ((St.mk [(23,SV.v (qA (k:Int))),(22,SV.v (qA (↑ps.length:Int))),(21,SV.x 0 []),(5,SV.m 1),(3,SV.p 2 0),(2,SV.p 3 0)] [HO.ext false (qB.s false 7 ps.length (cPt ps)),HO.mp true [IntKind.i64,IntKind.i64,IntKind.i64,IntKind.u64,IntKind.u64,IntKind.u64,IntKind.u64] kl Mc.unit,HO.cells [SV.v (qA rows),SV.x 0 []] 43,HO.cells [SV.v (qA c.1),SV.v (qA c.2),SV.v (qA c.3),SV.x 4 [],SV.x 5 [],SV.x 6 [],SV.x 7 [],SV.x 8 [],SV.x 9 [],SV.x 10 [],SV.x 11 [],SV.v (qA u)] 82,HO.ext false (qB.s false 7 (List.length c.4) (cN c.4)),HO.ext false (qB.s false 1 (List.length c.5) (cI c.5)),HO.ext false (qB.s false 2 (List.length c.6) (cL c.6)),HO.ext false (qB.s false 2 (List.length c.7) (cK c.7)),HO.ext false (qB.s false 2 (List.length p.1) (cRg p.1)),HO.ext false (qB.s false 2 (List.length p.2) (cTa p.2)),HO.ext false (qB.s false 6 (List.length p.3) (cLk p.3)),HO.ext false (qB.s false 1 (List.length p.4) (cT p.4))]))
 | 0,k,kl,hd,hq=>by
  refine FOk.rnd (qE hm 60 ((zSj c p u rows ps kl k 0 _ _).mpr ⟨?_⟩))
  rw[qF,if_neg (by omega)]
  rw[show k=ps.length by omega,List.drop_length] at hq
  exact hq
 | d+1,k,kl,hd,hq=>by
  have hk:k<ps.length:=by omega
  rw[qCj hk] at hq
  refine FOk.rnd (qE hm 60 ((zSj c p u rows ps kl k (d+1) _ _).mpr ⟨?_⟩))
  rw[qF,if_pos (by omega),qN _ (by omega)]
  repeat' (refine And.intro (fun _=>by omega) ?_)
  refine jQ (Q:=fun v=>Q (.v (.bool v)) []) hq id (fun hq=>?_)
  refine wP c hc p hp (And.intro ⟨ps,rfl,IsC.refl _ _ _⟩ ?_)
  exact jQ (Q:=fun v=>Q (.v (.bool v)) []) hq id (fun hq=>qTw c hc p hp u rows ps hb Q d (k+1) _ (by omega) hq)
theorem jAw:Try.f61.body.isSome=true:=by kernel_rfl
theorem zYz(c:Cir)(u rows:Int):Nat.ble ([.agg [.v (.int .i64 c.1),.v (.int .i64 c.2),.v (.int .i64 c.3),.x 0 [],.x 1 [],.x 2 [],.x 3 [],.x 4 [],.x 5 [],.x 6 [],.x 7 [],.v (.int .i64 u)],.agg [.v (.int .i64 rows),.x 8 []]]:List SV).length Try.f61.ntmps=true:=by kernel_rfl
theorem zSd(c:Cir)(hc:c.ok)(p:Pln)(hp:p.ok)(u rows:Int)(ps:List Pt)(Q:SV→List HO→Prop)(hq:Q (.v (.bool (qSi c p (rows,ps)))) []):qI Try.prog 61 [.agg [.v (.int .i64 c.1),.v (.int .i64 c.2),.v (.int .i64 c.3),.x 0 [],.x 1 [],.x 2 [],.x 3 [],.x 4 [],.x 5 [],.x 6 [],.x 7 [],.v (.int .i64 u)],.agg [.v (.int .i64 rows),.x 8 []]] [.ext false (.s false 7 c.4.length (cN c.4)),.ext false (.s false 1 c.5.length (cI c.5)),.ext false (.s false 2 c.6.length (cL c.6)),.ext false (.s false 2 c.7.length (cK c.7)),.ext false (.s false 2 p.1.length (cRg p.1)),.ext false (.s false 2 p.2.length (cTa p.2)),.ext false (.s false 6 p.3.length (cLk p.3)),.ext false (.s false 1 p.4.length (cT p.4)),.ext false (.s false 7 ps.length (cPt ps))] Q:=by
 refine qJ Try.func61 jAw ?_ ?_
 ·exact zYz c u rows
 refine qE hm 60 ((jAb c p u rows ps _ _).mpr ⟨?_⟩)
 rw[qSi] at hq
 refine jQ (Q:=fun v=>Q (.v (.bool v)) []) hq id (fun hq=>?_)
 rw[qF] at hq
 rw[qF]
 by_cases h:(64:Int)<(ps.length:Int)
 ·rw[if_pos h]
  rw[if_pos h] at hq
  exact hq
 ·rw[if_neg h]
  rw[if_neg h] at hq
  exact FOk.loop (ps.length+1) (by kernel_rfl) (qTw c hc p hp u rows ps (by omega) Q ps.length 0 [] (by omega) hq)
noncomputable def zRt:List SV→List HO→Option ((SV→List HO→Prop)→Prop)
 | [.agg [.v (.int .i64 fx),.v (.int .i64 ad),.v (.int .i64 ins),.x 0 [],.x 1 [],.x 2 [],.x 3 [],.x 4 [],.x 5 [],.x 6 [],.x 7 [],.v (.int .i64 u)],.agg [.v (.int .i64 rows),.x 8 []]],[.ext false (.s false 7 n0 c0),.ext false (.s false 1 n1 c1),.ext false (.s false 2 n2 c2),.ext false (.s false 2 n3 c3),.ext false (.s false 2 m0 d0),.ext false (.s false 2 m1 d1),.ext false (.s false 6 m2 d2),.ext false (.s false 1 m3 d3),.ext false (.s false 7 q cq)] =>
  some fun Q=>lSh fx ad ins n0 n1 n2 n3 m0 m1 m2 m3 c0 c1 c2 c3 d0 d1 d2 d3 fun c p=>∃ ps:List Pt,q=ps.length∧IsC q 7 cq (cPt ps)∧Q (.v (.bool (qSi c p (rows,ps)))) []
 | _,_=>none
theorem zJn(args:List SV)(h:List HO)(tr:(SV→List HO→Prop)→Prop)(Q:SV→List HO→Prop)(hc:zRt args h=some tr)(ht:tr Q):qI Try.prog 61 args h Q:=by
 unfold zRt at hc
 split at hc
 ·simp only[sI] at hc
  subst hc
  obtain⟨c,rfl,rfl,rfl,⟨rfl,e0⟩,⟨rfl,e1⟩,⟨rfl,e2⟩,⟨rfl,e3⟩,hk,ht2⟩:=ht.h.h
  obtain⟨p,⟨rfl,e4⟩,⟨rfl,e5⟩,⟨rfl,e6⟩,⟨rfl,e7⟩,hp,ps,rfl,e8,hq⟩:=ht2.h
  exact qI.ac (zSd c hk p hp _ _ ps Q hq) ⟨⟨rfl,rfl,rfl,rfl,e0⟩,⟨rfl,rfl,rfl,rfl,e1⟩,⟨rfl,rfl,rfl,rfl,e2⟩,⟨rfl,rfl,rfl,rfl,e3⟩,⟨rfl,rfl,rfl,rfl,e4⟩,⟨rfl,rfl,rfl,rfl,e5⟩,⟨rfl,rfl,rfl,rfl,e6⟩,⟨rfl,rfl,rfl,rfl,e7⟩,⟨rfl,rfl,rfl,rfl,e8⟩,trivial⟩
 ·cases hc
theorem qVi(c:Cir)(p:Pln)(u:Int)(hb:p.tb.length≤17592186043904)(Q:SV→List HO→Prop):∀(d k:Nat) (kl:List (List Int)),k+d=p.tb.length→Q (.v (.bool (qNq c.1 kl (p.tb.drop k)))) [] →
  FOk Try.prog Try.f57 Q (.rnd [0,0,1,0,1,1] (d+1)::[.blk 0,.at [1,1,1]]) ((St.mk [(13,SV.v (qA (k:Int))),(12,SV.v (qA (↑(List.length p.2):Int))),(11,SV.x 0 []),(3,SV.m 1),(1,SV.p 2 0)] [HO.ext false (qB.s false 2 (List.length p.2) (cTa p.2)),HO.mp false [IntKind.i64] kl Mc.unit,HO.cells [SV.v (qA c.1),SV.v (qA c.2),SV.v (qA c.3),SV.x 3 [],SV.x 4 [],SV.x 5 [],SV.x 6 [],SV.x 7 [],SV.x 0 [],SV.x 8 [],SV.x 9 [],SV.v (qA u)] 82,HO.ext false (qB.s false 7 (List.length c.4) (cN c.4)),HO.ext false (qB.s false 1 (List.length c.5) (cI c.5)),HO.ext false (qB.s false 2 (List.length c.6) (cL c.6)),HO.ext false (qB.s false 2 (List.length c.7) (cK c.7)),HO.ext false (qB.s false 2 (List.length p.1) (cRg p.1)),HO.ext false (qB.s false 6 (List.length p.3) (cLk p.3)),HO.ext false (qB.s false 1 (List.length p.4) (cT p.4))]))
 | 0,k,kl,hd,hq=>by
  refine FOk.rnd (qE hm 60 ((zTo c p u kl k 0 _ _).mpr ⟨?_⟩))
  rw[qF,if_neg (by omega)]
  rw[show k=p.tb.length by omega,List.drop_length] at hq
  exact hq
 | d+1,k,kl,hd,hq=>by
  have hk:k<p.tb.length:=by omega
  rw[qHs hk] at hq
  refine FOk.rnd (qE hm 60 ((zTo c p u kl k (d+1) _ _).mpr ⟨?_⟩))
  rw[qF,if_pos (by omega),qN _ (by omega)]
  repeat' (refine And.intro (fun _=>by omega) ?_)
  exact jQ (Q:=fun v=>Q (.v (.bool v)) []) hq id (fun hq=>jQ (Q:=fun v=>Q (.v (.bool v)) []) hq id (fun hq=>jQ (Q:=fun v=>Q (.v (.bool v)) []) hq id (fun hq=>qVi c p u hb Q d (k+1) _ (by omega) hq)))
theorem jAg:Try.f57.body.isSome=true:=by kernel_rfl
theorem jBg(c:Cir)(u:Int):Nat.ble ([.agg [.v (.int .i64 c.1),.v (.int .i64 c.2),.v (.int .i64 c.3),.x 0 [],.x 1 [],.x 2 [],.x 3 [],.x 4 [],.x 5 [],.x 6 [],.x 7 [],.v (.int .i64 u)]]:List SV).length Try.f57.ntmps=true:=by kernel_rfl
theorem zSa(c:Cir)(hc:c.ok)(p:Pln)(hp:p.ok)(u:Int)(Q:SV→List HO→Prop)(hq:Q (.v (.bool (qNq c.1 [] p.tb))) []):qI Try.prog 57 [.agg [.v (.int .i64 c.1),.v (.int .i64 c.2),.v (.int .i64 c.3),.x 0 [],.x 1 [],.x 2 [],.x 3 [],.x 4 [],.x 5 [],.x 6 [],.x 7 [],.v (.int .i64 u)]] [.ext false (.s false 7 c.4.length (cN c.4)),.ext false (.s false 1 c.5.length (cI c.5)),.ext false (.s false 2 c.6.length (cL c.6)),.ext false (.s false 2 c.7.length (cK c.7)),.ext false (.s false 2 p.1.length (cRg p.1)),.ext false (.s false 2 p.2.length (cTa p.2)),.ext false (.s false 6 p.3.length (cLk p.3)),.ext false (.s false 1 p.4.length (cT p.4))] Q:=by
 refine qJ Try.func57 jAg ?_ ?_
 ·exact jBg c u
 have h1:=hp.t.2
 refine qE hm 60 ((qVw c p u _ _).mpr ⟨?_⟩)
 exact FOk.loop (p.tb.length+1) (by kernel_rfl) (qVi c p u (by omega) Q p.tb.length 0 [] (by omega) hq)
noncomputable def zLv:List SV→List HO→Option ((SV→List HO→Prop)→Prop)
 | [.agg [.v (.int .i64 fx),.v (.int .i64 ad),.v (.int .i64 ins),.x 0 [],.x 1 [],.x 2 [],.x 3 [],.x 4 [],.x 5 [],.x 6 [],.x 7 [],.v (.int .i64 u)]],[.ext false (.s false 7 n0 c0),.ext false (.s false 1 n1 c1),.ext false (.s false 2 n2 c2),.ext false (.s false 2 n3 c3),.ext false (.s false 2 m0 d0),.ext false (.s false 2 m1 d1),.ext false (.s false 6 m2 d2),.ext false (.s false 1 m3 d3)] =>
  some fun Q=>lSh fx ad ins n0 n1 n2 n3 m0 m1 m2 m3 c0 c1 c2 c3 d0 d1 d2 d3 fun c p=>Q (.v (.bool (qNq c.1 [] p.tb))) []
 | _,_=>none
theorem zIp(args:List SV)(h:List HO)(tr:(SV→List HO→Prop)→Prop)(Q:SV→List HO→Prop)(hc:zLv args h=some tr)(ht:tr Q):qI Try.prog 57 args h Q:=by
 unfold zLv at hc
 split at hc
 ·simp only[sI] at hc
  subst hc
  obtain⟨c,rfl,rfl,rfl,⟨rfl,e0⟩,⟨rfl,e1⟩,⟨rfl,e2⟩,⟨rfl,e3⟩,hk,ht2⟩:=ht.h.h
  obtain⟨p,⟨rfl,e4⟩,⟨rfl,e5⟩,⟨rfl,e6⟩,⟨rfl,e7⟩,hp,hq⟩:=ht2.h
  exact qI.ac (zSa c hk p hp _ Q hq) ⟨⟨rfl,rfl,rfl,rfl,e0⟩,⟨rfl,rfl,rfl,rfl,e1⟩,⟨rfl,rfl,rfl,rfl,e2⟩,⟨rfl,rfl,rfl,rfl,e3⟩,⟨rfl,rfl,rfl,rfl,e4⟩,⟨rfl,rfl,rfl,rfl,e5⟩,⟨rfl,rfl,rfl,rfl,e6⟩,⟨rfl,rfl,rfl,rfl,e7⟩,trivial⟩
 ·cases hc
noncomputable def zSh:Con Try.prog:=(zEn.add 61 zRt zJn).add 57 zLv zIp
end Go.Proofs.Ytlmjdcbhpffanaa
/- Ends of links: plain. -/
namespace Go.Pl
open Go.Sx
def qNu(c:Cir)(p:Pln)(u er ec eo:Int):Bool:=bif decide (ec<(0:Int)) then false else bif decide ((c.eqs.length:Int)≤ec) then false else bif decide (eo<(0:Int)) then false else bif decide (er<(-1:Int)) then false else bif decide ((p.rg.length:Int)≤er) then false else bif decide (er<(0:Int)) then decide (eo<u) else bif !((gK c.eqs ec.toNat).1==(4:Int)) then decide (eo<(gRg p.rg er.toNat).1) else false
theorem yA{Q:Bool→Prop}{b x y:Bool}{X Y:Prop}(h:Q (bif b then x else y))(hx:b=true→Q x→X)(hy:b=false→Q y→Y):bif b then X else Y:=by
 cases b
 ·exact hy rfl h
 ·exact hx rfl h
def lkB(c:Cir)(p:Pln)(u:Int)(x:(Int×Int×Int)×(Int×Int×Int)):Bool:=bif !qNu c p u x.1.1 x.1.2.1 x.1.2.2 then true else !qNu c p u x.2.1 x.2.2.1 x.2.2.2
def rgN(c:Cir)(p:Pln)(r:Int×List Pt):Bool:=!qSi c p r
theorem qTs{q:Int×List Pt→Bool}{l:List (Int×List Pt)}{k:Nat}(h:k<l.length):qX q k (l.drop k)=if q (gRg l k) then(k:Int) else qX q (k+1) (l.drop (k+1)):=by
 rw[qMh h,qX]
theorem qWo{q:(Int×Int×Int)×(Int×Int×Int)→Bool}{l:List ((Int×Int×Int)×(Int×Int×Int))}{k:Nat}(h:k<l.length):qX q k (l.drop k)=if q (gLk l k) then(k:Int) else qX q (k+1) (l.drop (k+1)):=by
 rw[zEx h,qX]
end Go.Pl
namespace Go.Proofs.Ytlmjdcbhpffanaa
open Go.Sx Go.Pl
set_option linter.unusedVariables false
set_option maxRecDepth 100000
end Go.Proofs.Ytlmjdcbhpffanaa
/- Is an end right? -/
namespace Go.Proofs.Ytlmjdcbhpffanaa
open Go.Sx Go.Pl
set_option linter.unusedVariables false
set_option maxRecDepth 100000
theorem jAh(c:Cir)(p:Pln)(u er ec eo:Int)(K:List It→St→Prop)(R:SV→List HO→Prop):W (xwp Try.prog X zSh [] 60 (qO Try.f64 [] []) [] [.at []] ⟨qQ 0 [.agg [.v (.int .i64 c.1),.v (.int .i64 c.2),.v (.int .i64 c.3),.x 0 [],.x 1 [],.x 2 [],.x 3 [],.x 4 [],.x 5 [],.x 6 [],.x 7 [],.v (.int .i64 u)],.agg [.v (.int .i64 er),.v (.int .i64 ec),.v (.int .i64 eo)]],[.ext false (.s false 7 c.4.length (cN c.4)),.ext false (.s false 1 c.5.length (cI c.5)),.ext false (.s false 2 c.6.length (cL c.6)),.ext false (.s false 2 c.7.length (cK c.7)),.ext false (.s false 2 p.1.length (cRg p.1)),.ext false (.s false 2 p.2.length (cTa p.2)),.ext false (.s false 6 p.3.length (cLk p.3)),.ext false (.s false 1 p.4.length (cT p.4))]⟩ K R)=W (bif decide (ec<(0:Int)) then R (.v (.bool false)) [] else bif decide ((↑c.7.length:Int)≤ec) then R (.v (.bool false)) [] else bif decide (eo<(0:Int)) then R (.v (.bool false)) [] else bif decide (er<(-1:Int)) then R (.v (.bool false)) [] else bif decide ((↑p.1.length:Int)≤er) then R (.v (.bool false)) [] else bif decide (er<(0:Int)) then R (.v (.bool (decide (eo<u)))) [] else(∀ M:Mem,(0:Int)≤ec∧ec<(↑c.7.length:Int))∧(∀ M:Mem,Int.toNat ec<List.length c.7)∧(∀ M:Mem,Int.toNat ec<List.length c.7)∧bif !(gK c.7 (Int.toNat ec)).1==(4:Int) then(∀ M:Mem,(0:Int)≤er∧er<(↑p.1.length:Int))∧(∀ M:Mem,Int.toNat er<List.length p.1)∧(∀ M:Mem,Int.toNat er<List.length p.1)∧R (.v (.bool (decide (eo<(gRg p.1 (Int.toNat er)).1)))) [] else R (.v (.bool false)) []):=by kernel_rfl
theorem zYe:Try.f64.body.isSome=true:=by kernel_rfl
theorem zXj(c:Cir)(u er ec eo:Int):Nat.ble ([.agg [.v (.int .i64 c.1),.v (.int .i64 c.2),.v (.int .i64 c.3),.x 0 [],.x 1 [],.x 2 [],.x 3 [],.x 4 [],.x 5 [],.x 6 [],.x 7 [],.v (.int .i64 u)],.agg [.v (.int .i64 er),.v (.int .i64 ec),.v (.int .i64 eo)]]:List SV).length Try.f64.ntmps=true:=by kernel_rfl
theorem zRc(c:Cir)(p:Pln)(u er ec eo:Int)(Q:SV→List HO→Prop)(hq:Q (.v (.bool (qNu c p u er ec eo))) []):qI Try.prog 64 [.agg [.v (.int .i64 c.1),.v (.int .i64 c.2),.v (.int .i64 c.3),.x 0 [],.x 1 [],.x 2 [],.x 3 [],.x 4 [],.x 5 [],.x 6 [],.x 7 [],.v (.int .i64 u)],.agg [.v (.int .i64 er),.v (.int .i64 ec),.v (.int .i64 eo)]] [.ext false (.s false 7 c.4.length (cN c.4)),.ext false (.s false 1 c.5.length (cI c.5)),.ext false (.s false 2 c.6.length (cL c.6)),.ext false (.s false 2 c.7.length (cK c.7)),.ext false (.s false 2 p.1.length (cRg p.1)),.ext false (.s false 2 p.2.length (cTa p.2)),.ext false (.s false 6 p.3.length (cLk p.3)),.ext false (.s false 1 p.4.length (cT p.4))] Q:=by
 refine qJ Try.func64 zYe ?_ ?_
 ·exact zXj c u er ec eo
 refine qE hm 60 ((jAh c p u er ec eo _ _).mpr ⟨?_⟩)
 refine yA (Q:=fun v=>Q (.v (.bool v)) []) hq (fun _ h=>h) (fun e1 hq=>yA (Q:=fun v=>Q (.v (.bool v)) []) hq (fun _ h=>h) (fun e2 hq=>yA (Q:=fun v=>Q (.v (.bool v)) []) hq (fun _ h=>h) (fun _ hq=>yA (Q:=fun v=>Q (.v (.bool v)) []) hq (fun _ h=>h) (fun _ hq=>yA (Q:=fun v=>Q (.v (.bool v)) []) hq (fun _ h=>h) (fun e3 hq=>yA (Q:=fun v=>Q (.v (.bool v)) []) hq (fun _ h=>h) (fun e4 hq=>?_))))))
 have e1:=of_decide_eq_false e1
 have e2:=of_decide_eq_false e2
 have e3:=of_decide_eq_false e3
 have e4:=of_decide_eq_false e4
 refine aI (aI (And.intro (fun _=>by omega) ?_))
 exact yA (Q:=fun v=>Q (.v (.bool v)) []) hq (fun _ h=>aI (aI (And.intro (fun _=>by omega) h))) (fun _ h=>h)
noncomputable def zSc:List SV→List HO→Option ((SV→List HO→Prop)→Prop)
 | [.agg [.v (.int .i64 fx),.v (.int .i64 ad),.v (.int .i64 ins),.x 0 [],.x 1 [],.x 2 [],.x 3 [],.x 4 [],.x 5 [],.x 6 [],.x 7 [],.v (.int .i64 u)],.agg [.v (.int .i64 er),.v (.int .i64 ec),.v (.int .i64 eo)]],[.ext false (.s false 7 n0 c0),.ext false (.s false 1 n1 c1),.ext false (.s false 2 n2 c2),.ext false (.s false 2 n3 c3),.ext false (.s false 2 m0 d0),.ext false (.s false 2 m1 d1),.ext false (.s false 6 m2 d2),.ext false (.s false 1 m3 d3)] =>
  some fun Q=>lSh fx ad ins n0 n1 n2 n3 m0 m1 m2 m3 c0 c1 c2 c3 d0 d1 d2 d3 fun c p=>Q (.v (.bool (qNu c p u er ec eo))) []
 | _,_=>none
theorem zIm(args:List SV)(h:List HO)(tr:(SV→List HO→Prop)→Prop)(Q:SV→List HO→Prop)(hc:zSc args h=some tr)(ht:tr Q):qI Try.prog 64 args h Q:=by
 unfold zSc at hc
 split at hc
 ·simp only[sI] at hc
  subst hc
  obtain⟨c,rfl,rfl,rfl,⟨rfl,e0⟩,⟨rfl,e1⟩,⟨rfl,e2⟩,⟨rfl,e3⟩,hk,ht2⟩:=ht.h.h
  obtain⟨p,⟨rfl,e4⟩,⟨rfl,e5⟩,⟨rfl,e6⟩,⟨rfl,e7⟩,hp,hq⟩:=ht2.h
  exact qI.ac (zRc c p _ _ _ _ Q hq) ⟨⟨rfl,rfl,rfl,rfl,e0⟩,⟨rfl,rfl,rfl,rfl,e1⟩,⟨rfl,rfl,rfl,rfl,e2⟩,⟨rfl,rfl,rfl,rfl,e3⟩,⟨rfl,rfl,rfl,rfl,e4⟩,⟨rfl,rfl,rfl,rfl,e5⟩,⟨rfl,rfl,rfl,rfl,e6⟩,⟨rfl,rfl,rfl,rfl,e7⟩,trivial⟩
 ·cases hc
noncomputable def zRd:Con Try.prog:=zSh.add 64 zSc zIm
end Go.Proofs.Ytlmjdcbhpffanaa
/- The first region, link, column that is wrong. -/
namespace Go.Proofs.Ytlmjdcbhpffanaa
open Go.Sx Go.Pl
set_option linter.unusedVariables false
set_option maxRecDepth 100000
theorem zXl(c:Cir)(p:Pln)(u:Int)(K:List It→St→Prop)(R:SV→List HO→Prop):W (xwp Try.prog X zRd [(87,[])] 60 (fxM 9 Try.f68 [] [⟨[0,1,0,1],[8,7,0,1],[]⟩]) [] [.at []] ⟨qQ 0 [.x 0 [],.fn (.func 87) [] [.p 1 0]],[.ext false (.s false 1 p.4.length (cT p.4)),.cells [.v (.int .i64 c.1),.v (.int .i64 c.2),.v (.int .i64 c.3),.x 2 [],.x 3 [],.x 4 [],.x 5 [],.x 6 [],.x 7 [],.x 8 [],.x 0 [],.v (.int .i64 u)] 82,.ext false (.s false 7 c.4.length (cN c.4)),.ext false (.s false 1 c.5.length (cI c.5)),.ext false (.s false 2 c.6.length (cL c.6)),.ext false (.s false 2 c.7.length (cK c.7)),.ext false (.s false 2 p.1.length (cRg p.1)),.ext false (.s false 2 p.2.length (cTa p.2)),.ext false (.s false 6 p.3.length (cLk p.3))]⟩ K R)=W (K [.at [0,1,0,1],.blk 0,.at [1,1]] (St.mk [(8,.v (qA 0)),(7,.v (qA (↑p.4.length:Int))),(0,.x 0 []),(1,SV.fn (Fn.func 87) [] [.p 1 0])] [.ext false (.s false 1 p.4.length (cT p.4)),.cells [.v (qA c.1),.v (qA c.2),.v (qA c.3),.x 2 [],.x 3 [],.x 4 [],.x 5 [],.x 6 [],.x 7 [],.x 8 [],.x 0 [],.v (qA u)] 82,.ext false (.s false 7 c.4.length (cN c.4)),.ext false (.s false 1 c.5.length (cI c.5)),.ext false (.s false 2 c.6.length (cL c.6)),.ext false (.s false 2 c.7.length (cK c.7)),.ext false (.s false 2 p.1.length (cRg p.1)),.ext false (.s false 2 p.2.length (cTa p.2)),.ext false (.s false 6 p.3.length (cLk p.3))])):=by kernel_rfl
theorem zWg(c:Cir)(p:Pln)(u:Int)(k M:Nat)(K:List It→St→Prop)(R:SV→List HO→Prop):W (xwp Try.prog X zRd [(87,[])] 60 (fxM 9 Try.f68 [] [⟨[0,1,0,1],[8,7,0,1],[]⟩]) [] (.at [0,0,1,0,1]::.rnd [0,0,1,0,1] M::[.blk 0,.at [1,1]]) ⟨[(8,.v (.int .i64 (k:Int))),(7,.v (.int .i64 (p.4.length:Int))),(0,.x 0 []),(1,.fn (.func 87) [] [.p 1 0])],[.ext false (.s false 1 p.4.length (cT p.4)),.cells [.v (.int .i64 c.1),.v (.int .i64 c.2),.v (.int .i64 c.3),.x 2 [],.x 3 [],.x 4 [],.x 5 [],.x 6 [],.x 7 [],.x 8 [],.x 0 [],.v (.int .i64 u)] 82,.ext false (.s false 7 c.4.length (cN c.4)),.ext false (.s false 1 c.5.length (cI c.5)),.ext false (.s false 2 c.6.length (cL c.6)),.ext false (.s false 2 c.7.length (cK c.7)),.ext false (.s false 2 p.1.length (cRg p.1)),.ext false (.s false 2 p.2.length (cTa p.2)),.ext false (.s false 6 p.3.length (cLk p.3))]⟩ K R)=W (bif decide ((↑k:Int)<(↑p.4.length:Int)) then(∀ M:Mem,(0:Int)≤(↑k:Int)∧(↑k:Int)<(↑p.4.length:Int))∧(∀ M:Mem,k<List.length p.4)∧(∀ M:Mem,k<List.length p.4)∧(∀ M:Mem,0<1)∧(∀ M:Mem,0<1)∧bif decide (u<(↑(List.length (gT p.4 k)):Int)) then R (.v (qA (↑k:Int))) [.ext false (.s false 1 p.4.length (cT p.4)),.cells [.v (qA c.1),.v (qA c.2),.v (qA c.3),.x 2 [],.x 3 [],.x 4 [],.x 5 [],.x 6 [],.x 7 [],.x 8 [],.x 0 [],.v (qA u)] 82,.ext false (.s false 7 c.4.length (cN c.4)),.ext false (.s false 1 c.5.length (cI c.5)),.ext false (.s false 2 c.6.length (cL c.6)),.ext false (.s false 2 c.7.length (cK c.7)),.ext false (.s false 2 p.1.length (cRg p.1)),.ext false (.s false 2 p.2.length (cTa p.2)),.ext false (.s false 6 p.3.length (cLk p.3))] else K [.rnd [0,0,1,0,1] M,.blk 0,.at [1,1]] (St.mk [(8,.v (qA (IntKind.wrap .i64 ((↑k:Int)+(1:Int))))),(7,.v (qA (↑p.4.length:Int))),(0,.x 0 []),(1,SV.fn (Fn.func 87) [] [.p 1 0])] [.ext false (.s false 1 p.4.length (cT p.4)),.cells [.v (qA c.1),.v (qA c.2),.v (qA c.3),.x 2 [],.x 3 [],.x 4 [],.x 5 [],.x 6 [],.x 7 [],.x 8 [],.x 0 [],.v (qA u)] 82,.ext false (.s false 7 c.4.length (cN c.4)),.ext false (.s false 1 c.5.length (cI c.5)),.ext false (.s false 2 c.6.length (cL c.6)),.ext false (.s false 2 c.7.length (cK c.7)),.ext false (.s false 2 p.1.length (cRg p.1)),.ext false (.s false 2 p.2.length (cTa p.2)),.ext false (.s false 6 p.3.length (cLk p.3))]) else R (.v (qA (-1))) [.ext false (.s false 1 p.4.length (cT p.4)),.cells [.v (qA c.1),.v (qA c.2),.v (qA c.3),.x 2 [],.x 3 [],.x 4 [],.x 5 [],.x 6 [],.x 7 [],.x 8 [],.x 0 [],.v (qA u)] 82,.ext false (.s false 7 c.4.length (cN c.4)),.ext false (.s false 1 c.5.length (cI c.5)),.ext false (.s false 2 c.6.length (cL c.6)),.ext false (.s false 2 c.7.length (cK c.7)),.ext false (.s false 2 p.1.length (cRg p.1)),.ext false (.s false 2 p.2.length (cTa p.2)),.ext false (.s false 6 p.3.length (cLk p.3))]):=by kernel_rfl
theorem qVo(c:Cir)(hc:c.ok)(p:Pln)(hp:p.ok)(u:Int)(Q:SV→List HO→Prop):∀(d k:Nat),k+d=p.4.length→Q (.v (.int .i64 (qX (wK u) k (p.4.drop k)))) [.ext false (.s false 1 p.4.length (cT p.4)),.cells [.v (.int .i64 c.1),.v (.int .i64 c.2),.v (.int .i64 c.3),.x 2 [],.x 3 [],.x 4 [],.x 5 [],.x 6 [],.x 7 [],.x 8 [],.x 0 [],.v (.int .i64 u)] 82,.ext false (.s false 7 c.4.length (cN c.4)),.ext false (.s false 1 c.5.length (cI c.5)),.ext false (.s false 2 c.6.length (cL c.6)),.ext false (.s false 2 c.7.length (cK c.7)),.ext false (.s false 2 p.1.length (cRg p.1)),.ext false (.s false 2 p.2.length (cTa p.2)),.ext false (.s false 6 p.3.length (cLk p.3))] →
  zZ Try.prog 9 Try.f68 Q (.rnd [0,0,1,0,1] (d+1)::[.blk 0,.at [1,1]]) ⟨[(8,.v (.int .i64 (k:Int))),(7,.v (.int .i64 (p.4.length:Int))),(0,.x 0 []),(1,.fn (.func 87) [] [.p 1 0])],[.ext false (.s false 1 p.4.length (cT p.4)),.cells [.v (.int .i64 c.1),.v (.int .i64 c.2),.v (.int .i64 c.3),.x 2 [],.x 3 [],.x 4 [],.x 5 [],.x 6 [],.x 7 [],.x 8 [],.x 0 [],.v (.int .i64 u)] 82,.ext false (.s false 7 c.4.length (cN c.4)),.ext false (.s false 1 c.5.length (cI c.5)),.ext false (.s false 2 c.6.length (cL c.6)),.ext false (.s false 2 c.7.length (cK c.7)),.ext false (.s false 2 p.1.length (cRg p.1)),.ext false (.s false 2 p.2.length (cTa p.2)),.ext false (.s false 6 p.3.length (cLk p.3))]⟩
 | 0,k,hd,hq=>by
  refine FOk.rnd (qR hm 60 ((zWg c p u k 0 _ _).mpr ⟨?_⟩))
  rw[qF,if_neg (by omega)]
  rw[show k=p.4.length by omega,List.drop_length] at hq
  exact hq
 | d+1,k,hd,hq=>by
  have hk:k<p.4.length:=by omega
  have hb1:=hp.r.2
  have hb2:=hp.l.2
  have hb3:=hp.i.2
  rw[qKz hk] at hq
  refine FOk.rnd (qR hm 60 ((zWg c p u k (d+1) _ _).mpr ⟨?_⟩))
  rw[qF,if_pos (by omega),qN _ (by omega)]
  repeat' (refine And.intro (fun _=>by omega) ?_)
  refine qK (fun h=>?_) (fun h=>?_)
  ·rw[show wK u (gT p.4 k)=true from h] at hq; exact hq
  ·rw[show wK u (gT p.4 k)=false from h] at hq; exact qVo c hc p hp u Q d (k+1) (by omega) hq
theorem zZo:Try.f68.body.isSome=true:=by kernel_rfl
theorem jAz:Nat.ble [SV.x 0 [],.fn (.func 87) [] [.p 1 0]].length Try.f68.ntmps=true:=by kernel_rfl
theorem zMn(c:Cir)(hc:c.ok)(p:Pln)(hp:p.ok)(u:Int)(Q:SV→List HO→Prop)(hq:Q (.v (.int .i64 (qX (wK u) 0 p.4))) [.ext false (.s false 1 p.4.length (cT p.4)),.cells [.v (.int .i64 c.1),.v (.int .i64 c.2),.v (.int .i64 c.3),.x 2 [],.x 3 [],.x 4 [],.x 5 [],.x 6 [],.x 7 [],.x 8 [],.x 0 [],.v (.int .i64 u)] 82,.ext false (.s false 7 c.4.length (cN c.4)),.ext false (.s false 1 c.5.length (cI c.5)),.ext false (.s false 2 c.6.length (cL c.6)),.ext false (.s false 2 c.7.length (cK c.7)),.ext false (.s false 2 p.1.length (cRg p.1)),.ext false (.s false 2 p.2.length (cTa p.2)),.ext false (.s false 6 p.3.length (cLk p.3))]):zL Try.prog 9 68 [.x 0 [],.fn (.func 87) [] [.p 1 0]] [.ext false (.s false 1 p.4.length (cT p.4)),.cells [.v (.int .i64 c.1),.v (.int .i64 c.2),.v (.int .i64 c.3),.x 2 [],.x 3 [],.x 4 [],.x 5 [],.x 6 [],.x 7 [],.x 8 [],.x 0 [],.v (.int .i64 u)] 82,.ext false (.s false 7 c.4.length (cN c.4)),.ext false (.s false 1 c.5.length (cI c.5)),.ext false (.s false 2 c.6.length (cL c.6)),.ext false (.s false 2 c.7.length (cK c.7)),.ext false (.s false 2 p.1.length (cRg p.1)),.ext false (.s false 2 p.2.length (cTa p.2)),.ext false (.s false 6 p.3.length (cLk p.3))] Q:=by
 refine qJ Try.func68 zZo ?_ ?_
 ·exact jAz
 refine qR hm 60 ((zXl c p u _ _).mpr ⟨?_⟩)
 exact FOk.loop (p.4.length+1) (by kernel_rfl) (qVo c hc p hp u Q p.4.length 0 (by omega) hq)
noncomputable def zRm:List SV→List HO→Option ((SV→List HO→Prop)→Prop)
 | [.x 0 [],.fn (.func 87) [] [.p 1 0]],[.ext false (.s false 1 m3 d3),.cells [.v (.int .i64 fx),.v (.int .i64 ad),.v (.int .i64 ins),.x 2 [],.x 3 [],.x 4 [],.x 5 [],.x 6 [],.x 7 [],.x 8 [],.x 0 [],.v (.int .i64 u)] 82,.ext false (.s false 7 n0 c0),.ext false (.s false 1 n1 c1),.ext false (.s false 2 n2 c2),.ext false (.s false 2 n3 c3),.ext false (.s false 2 m0 d0),.ext false (.s false 2 m1 d1),.ext false (.s false 6 m2 d2)]=>some fun Q=>lSh fx ad ins n0 n1 n2 n3 m0 m1 m2 m3 c0 c1 c2 c3 d0 d1 d2 d3 fun c p=>Q (.v (.int .i64 (qX (wK u) 0 p.4))) [.ext false (.s false 1 p.4.length (cT p.4)),.cells [.v (.int .i64 c.1),.v (.int .i64 c.2),.v (.int .i64 c.3),.x 2 [],.x 3 [],.x 4 [],.x 5 [],.x 6 [],.x 7 [],.x 8 [],.x 0 [],.v (.int .i64 u)] 82,.ext false (.s false 7 c.4.length (cN c.4)),.ext false (.s false 1 c.5.length (cI c.5)),.ext false (.s false 2 c.6.length (cL c.6)),.ext false (.s false 2 c.7.length (cK c.7)),.ext false (.s false 2 p.1.length (cRg p.1)),.ext false (.s false 2 p.2.length (cTa p.2)),.ext false (.s false 6 p.3.length (cLk p.3))]
 | _,_=>none
theorem zHz(args:List SV)(h:List HO)(tr:(SV→List HO→Prop)→Prop)(Q:SV→List HO→Prop)(hc:zRm args h=some tr)(ht:tr Q):zL Try.prog h.length 68 args h Q:=by
 unfold zRm at hc
 split at hc
 ·simp only[sI] at hc
  subst hc
  obtain⟨c,rfl,rfl,rfl,⟨rfl,e0⟩,⟨rfl,e1⟩,⟨rfl,e2⟩,⟨rfl,e3⟩,hk,ht2⟩:=ht.h.h
  obtain⟨p,⟨rfl,e4⟩,⟨rfl,e5⟩,⟨rfl,e6⟩,⟨rfl,e7⟩,hp,hq⟩:=ht2.h
  exact qI.ac (zMn c hk p hp _ Q hq) ⟨⟨rfl,rfl,rfl,rfl,e7⟩,HE.refl _,⟨rfl,rfl,rfl,rfl,e0⟩,⟨rfl,rfl,rfl,rfl,e1⟩,⟨rfl,rfl,rfl,rfl,e2⟩,⟨rfl,rfl,rfl,rfl,e3⟩,⟨rfl,rfl,rfl,rfl,e4⟩,⟨rfl,rfl,rfl,rfl,e5⟩,⟨rfl,rfl,rfl,rfl,e6⟩,trivial⟩
 ·cases hc
noncomputable def zVe:Con Try.prog:=zRd.addW 68 zRm zHz
noncomputable def qZs:Con Try.prog:=(zVe.setW 60).setW 63
end Go.Proofs.Ytlmjdcbhpffanaa
/- The first that is wrong. -/
namespace Go.Proofs.Ytlmjdcbhpffanaa
open Go.Sx Go.Pl
set_option linter.unusedVariables false
set_option maxRecDepth 100000
theorem jBa(c:Cir)(p:Pln)(u:Int)(K:List It→St→Prop)(R:SV→List HO→Prop):W (xwp Try.prog X qZs [(60,[])] 60 (fxM 9 Try.f88 [] [⟨[0,1,0,1],[8,7,0,1],[]⟩]) [] [.at []] ⟨qQ 0 [.x 0 [],.fn (.func 60) [] [.p 1 0]],[.ext false (.s false 2 p.1.length (cRg p.1)),.cells [.v (.int .i64 c.1),.v (.int .i64 c.2),.v (.int .i64 c.3),.x 2 [],.x 3 [],.x 4 [],.x 5 [],.x 0 [],.x 6 [],.x 7 [],.x 8 [],.v (.int .i64 u)] 82,.ext false (.s false 7 c.4.length (cN c.4)),.ext false (.s false 1 c.5.length (cI c.5)),.ext false (.s false 2 c.6.length (cL c.6)),.ext false (.s false 2 c.7.length (cK c.7)),.ext false (.s false 2 p.2.length (cTa p.2)),.ext false (.s false 6 p.3.length (cLk p.3)),.ext false (.s false 1 p.4.length (cT p.4))]⟩ K R)=W (K [.at [0,1,0,1],.blk 0,.at [1,1]] (St.mk [(8,.v (qA 0)),(7,.v (qA (↑p.1.length:Int))),(0,.x 0 []),(1,SV.fn (Fn.func 60) [] [.p 1 0])] [.ext false (.s false 2 p.1.length (cRg p.1)),.cells [.v (qA c.1),.v (qA c.2),.v (qA c.3),.x 2 [],.x 3 [],.x 4 [],.x 5 [],.x 0 [],.x 6 [],.x 7 [],.x 8 [],.v (qA u)] 82,.ext false (.s false 7 c.4.length (cN c.4)),.ext false (.s false 1 c.5.length (cI c.5)),.ext false (.s false 2 c.6.length (cL c.6)),.ext false (.s false 2 c.7.length (cK c.7)),.ext false (.s false 2 p.2.length (cTa p.2)),.ext false (.s false 6 p.3.length (cLk p.3)),.ext false (.s false 1 p.4.length (cT p.4))])):=by kernel_rfl
theorem zVt(c:Cir)(p:Pln)(u:Int)(k M:Nat)(K:List It→St→Prop)(R:SV→List HO→Prop):W (xwp Try.prog X qZs [(60,[])] 60 (fxM 9 Try.f88 [] [⟨[0,1,0,1],[8,7,0,1],[]⟩]) [] (.at [0,0,1,0,1]::.rnd [0,0,1,0,1] M::[.blk 0,.at [1,1]]) ⟨[(8,.v (.int .i64 (k:Int))),(7,.v (.int .i64 (p.1.length:Int))),(0,.x 0 []),(1,.fn (.func 60) [] [.p 1 0])],[.ext false (.s false 2 p.1.length (cRg p.1)),.cells [.v (.int .i64 c.1),.v (.int .i64 c.2),.v (.int .i64 c.3),.x 2 [],.x 3 [],.x 4 [],.x 5 [],.x 0 [],.x 6 [],.x 7 [],.x 8 [],.v (.int .i64 u)] 82,.ext false (.s false 7 c.4.length (cN c.4)),.ext false (.s false 1 c.5.length (cI c.5)),.ext false (.s false 2 c.6.length (cL c.6)),.ext false (.s false 2 c.7.length (cK c.7)),.ext false (.s false 2 p.2.length (cTa p.2)),.ext false (.s false 6 p.3.length (cLk p.3)),.ext false (.s false 1 p.4.length (cT p.4))]⟩ K R)=W (bif decide ((↑k:Int)<(↑p.1.length:Int)) then(∀ M:Mem,(0:Int)≤(↑k:Int)∧(↑k:Int)<(↑p.1.length:Int))∧(∀ M:Mem,k<List.length p.1)∧(∀ M:Mem,k<List.length p.1)∧lSh c.1 c.2 c.3 c.4.length c.5.length c.6.length c.7.length p.1.length p.2.length p.3.length p.4.length (cN c.4) (cI c.5) (cL c.6) (cK c.7) (cRg p.1) (cTa p.2) (cLk p.3) (cT p.4) fun(c_1:Cir) (p_1:Pln)=>∃(ps:List Pt),List.length (gRg p.1 k).2=List.length ps∧IsC (List.length (gRg p.1 k).2) 7 (cPt (gRg p.1 k).2) (cPt ps)∧bif !qSi c_1 p_1 ((gRg p.1 k).1,ps) then R (.v (qA (↑k:Int))) [.ext false (.s false 2 p.1.length (cRg p.1)),.cells [.v (qA c.1),.v (qA c.2),.v (qA c.3),.x 2 [],.x 3 [],.x 4 [],.x 5 [],.x 0 [],.x 6 [],.x 7 [],.x 8 [],.v (qA u)] 82,.ext false (.s false 7 c.4.length (cN c.4)),.ext false (.s false 1 c.5.length (cI c.5)),.ext false (.s false 2 c.6.length (cL c.6)),.ext false (.s false 2 c.7.length (cK c.7)),.ext false (.s false 2 p.2.length (cTa p.2)),.ext false (.s false 6 p.3.length (cLk p.3)),.ext false (.s false 1 p.4.length (cT p.4))] else K [.rnd [0,0,1,0,1] M,.blk 0,.at [1,1]] (St.mk [(8,.v (qA (IntKind.wrap .i64 ((↑k:Int)+(1:Int))))),(7,.v (qA (↑p.1.length:Int))),(0,.x 0 []),(1,SV.fn (Fn.func 60) [] [.p 1 0])] [.ext false (.s false 2 p.1.length (cRg p.1)),.cells [.v (qA c.1),.v (qA c.2),.v (qA c.3),.x 2 [],.x 3 [],.x 4 [],.x 5 [],.x 0 [],.x 6 [],.x 7 [],.x 8 [],.v (qA u)] 82,.ext false (.s false 7 c.4.length (cN c.4)),.ext false (.s false 1 c.5.length (cI c.5)),.ext false (.s false 2 c.6.length (cL c.6)),.ext false (.s false 2 c.7.length (cK c.7)),.ext false (.s false 2 p.2.length (cTa p.2)),.ext false (.s false 6 p.3.length (cLk p.3)),.ext false (.s false 1 p.4.length (cT p.4))]) else R (.v (qA (-1))) [.ext false (.s false 2 p.1.length (cRg p.1)),.cells [.v (qA c.1),.v (qA c.2),.v (qA c.3),.x 2 [],.x 3 [],.x 4 [],.x 5 [],.x 0 [],.x 6 [],.x 7 [],.x 8 [],.v (qA u)] 82,.ext false (.s false 7 c.4.length (cN c.4)),.ext false (.s false 1 c.5.length (cI c.5)),.ext false (.s false 2 c.6.length (cL c.6)),.ext false (.s false 2 c.7.length (cK c.7)),.ext false (.s false 2 p.2.length (cTa p.2)),.ext false (.s false 6 p.3.length (cLk p.3)),.ext false (.s false 1 p.4.length (cT p.4))]):=by kernel_rfl
theorem qUa(c:Cir)(hc:c.ok)(p:Pln)(hp:p.ok)(u:Int)(Q:SV→List HO→Prop):∀(d k:Nat),k+d=p.1.length→Q (.v (.int .i64 (qX (rgN c p) k (p.1.drop k)))) [.ext false (.s false 2 p.1.length (cRg p.1)),.cells [.v (.int .i64 c.1),.v (.int .i64 c.2),.v (.int .i64 c.3),.x 2 [],.x 3 [],.x 4 [],.x 5 [],.x 0 [],.x 6 [],.x 7 [],.x 8 [],.v (.int .i64 u)] 82,.ext false (.s false 7 c.4.length (cN c.4)),.ext false (.s false 1 c.5.length (cI c.5)),.ext false (.s false 2 c.6.length (cL c.6)),.ext false (.s false 2 c.7.length (cK c.7)),.ext false (.s false 2 p.2.length (cTa p.2)),.ext false (.s false 6 p.3.length (cLk p.3)),.ext false (.s false 1 p.4.length (cT p.4))] →
  zZ Try.prog 9 Try.f88 Q (.rnd [0,0,1,0,1] (d+1)::[.blk 0,.at [1,1]]) ⟨[(8,.v (.int .i64 (k:Int))),(7,.v (.int .i64 (p.1.length:Int))),(0,.x 0 []),(1,.fn (.func 60) [] [.p 1 0])],[.ext false (.s false 2 p.1.length (cRg p.1)),.cells [.v (.int .i64 c.1),.v (.int .i64 c.2),.v (.int .i64 c.3),.x 2 [],.x 3 [],.x 4 [],.x 5 [],.x 0 [],.x 6 [],.x 7 [],.x 8 [],.v (.int .i64 u)] 82,.ext false (.s false 7 c.4.length (cN c.4)),.ext false (.s false 1 c.5.length (cI c.5)),.ext false (.s false 2 c.6.length (cL c.6)),.ext false (.s false 2 c.7.length (cK c.7)),.ext false (.s false 2 p.2.length (cTa p.2)),.ext false (.s false 6 p.3.length (cLk p.3)),.ext false (.s false 1 p.4.length (cT p.4))]⟩
 | 0,k,hd,hq=>by
  refine FOk.rnd (qR hm 60 ((zVt c p u k 0 _ _).mpr ⟨?_⟩))
  rw[qF,if_neg (by omega)]
  rw[show k=p.1.length by omega,List.drop_length] at hq
  exact hq
 | d+1,k,hd,hq=>by
  have hk:k<p.1.length:=by omega
  have hb1:=hp.r.2
  have hb2:=hp.l.2
  have hb3:=hp.i.2
  rw[qTs hk] at hq
  refine FOk.rnd (qR hm 60 ((zVt c p u k (d+1) _ _).mpr ⟨?_⟩))
  rw[qF,if_pos (by omega),qN _ (by omega)]
  refine aI (aI (And.intro (fun _=>by omega) ?_))
  refine wP c hc p hp ⟨(gRg p.1 k).2,rfl,IsC.refl _ _ _,?_⟩
  refine qK (fun h=>?_) (fun h=>?_)
  ·rw[show rgN c p (gRg p.1 k)=true from h] at hq; exact hq
  ·rw[show rgN c p (gRg p.1 k)=false from h] at hq; exact qUa c hc p hp u Q d (k+1) (by omega) hq
theorem zYv:Try.f88.body.isSome=true:=by kernel_rfl
theorem zZe:Nat.ble [SV.x 0 [],.fn (.func 60) [] [.p 1 0]].length Try.f88.ntmps=true:=by kernel_rfl
theorem zLq(c:Cir)(hc:c.ok)(p:Pln)(hp:p.ok)(u:Int)(Q:SV→List HO→Prop)(hq:Q (.v (.int .i64 (qX (rgN c p) 0 p.1))) [.ext false (.s false 2 p.1.length (cRg p.1)),.cells [.v (.int .i64 c.1),.v (.int .i64 c.2),.v (.int .i64 c.3),.x 2 [],.x 3 [],.x 4 [],.x 5 [],.x 0 [],.x 6 [],.x 7 [],.x 8 [],.v (.int .i64 u)] 82,.ext false (.s false 7 c.4.length (cN c.4)),.ext false (.s false 1 c.5.length (cI c.5)),.ext false (.s false 2 c.6.length (cL c.6)),.ext false (.s false 2 c.7.length (cK c.7)),.ext false (.s false 2 p.2.length (cTa p.2)),.ext false (.s false 6 p.3.length (cLk p.3)),.ext false (.s false 1 p.4.length (cT p.4))]):zL Try.prog 9 88 [.x 0 [],.fn (.func 60) [] [.p 1 0]] [.ext false (.s false 2 p.1.length (cRg p.1)),.cells [.v (.int .i64 c.1),.v (.int .i64 c.2),.v (.int .i64 c.3),.x 2 [],.x 3 [],.x 4 [],.x 5 [],.x 0 [],.x 6 [],.x 7 [],.x 8 [],.v (.int .i64 u)] 82,.ext false (.s false 7 c.4.length (cN c.4)),.ext false (.s false 1 c.5.length (cI c.5)),.ext false (.s false 2 c.6.length (cL c.6)),.ext false (.s false 2 c.7.length (cK c.7)),.ext false (.s false 2 p.2.length (cTa p.2)),.ext false (.s false 6 p.3.length (cLk p.3)),.ext false (.s false 1 p.4.length (cT p.4))] Q:=by
 refine qJ Try.func88 zYv ?_ ?_
 ·exact zZe
 refine qR hm 60 ((jBa c p u _ _).mpr ⟨?_⟩)
 exact FOk.loop (p.1.length+1) (by kernel_rfl) (qUa c hc p hp u Q p.1.length 0 (by omega) hq)
noncomputable def zNz:List SV→List HO→Option ((SV→List HO→Prop)→Prop)
 | [.x 0 [],.fn (.func 60) [] [.p 1 0]],[.ext false (.s false 2 m0 d0),.cells [.v (.int .i64 fx),.v (.int .i64 ad),.v (.int .i64 ins),.x 2 [],.x 3 [],.x 4 [],.x 5 [],.x 0 [],.x 6 [],.x 7 [],.x 8 [],.v (.int .i64 u)] 82,.ext false (.s false 7 n0 c0),.ext false (.s false 1 n1 c1),.ext false (.s false 2 n2 c2),.ext false (.s false 2 n3 c3),.ext false (.s false 2 m1 d1),.ext false (.s false 6 m2 d2),.ext false (.s false 1 m3 d3)]=>some fun Q=>lSh fx ad ins n0 n1 n2 n3 m0 m1 m2 m3 c0 c1 c2 c3 d0 d1 d2 d3 fun c p=>Q (.v (.int .i64 (qX (rgN c p) 0 p.1))) [.ext false (.s false 2 p.1.length (cRg p.1)),.cells [.v (.int .i64 c.1),.v (.int .i64 c.2),.v (.int .i64 c.3),.x 2 [],.x 3 [],.x 4 [],.x 5 [],.x 0 [],.x 6 [],.x 7 [],.x 8 [],.v (.int .i64 u)] 82,.ext false (.s false 7 c.4.length (cN c.4)),.ext false (.s false 1 c.5.length (cI c.5)),.ext false (.s false 2 c.6.length (cL c.6)),.ext false (.s false 2 c.7.length (cK c.7)),.ext false (.s false 2 p.2.length (cTa p.2)),.ext false (.s false 6 p.3.length (cLk p.3)),.ext false (.s false 1 p.4.length (cT p.4))]
 | _,_=>none
theorem zHg(args:List SV)(h:List HO)(tr:(SV→List HO→Prop)→Prop)(Q:SV→List HO→Prop)(hc:zNz args h=some tr)(ht:tr Q):zL Try.prog h.length 88 args h Q:=by
 unfold zNz at hc
 split at hc
 ·simp only[sI] at hc
  subst hc
  obtain⟨c,rfl,rfl,rfl,⟨rfl,e0⟩,⟨rfl,e1⟩,⟨rfl,e2⟩,⟨rfl,e3⟩,hk,ht2⟩:=ht.h.h
  obtain⟨p,⟨rfl,e4⟩,⟨rfl,e5⟩,⟨rfl,e6⟩,⟨rfl,e7⟩,hp,hq⟩:=ht2.h
  exact qI.ac (zLq c hk p hp _ Q hq) ⟨⟨rfl,rfl,rfl,rfl,e4⟩,HE.refl _,⟨rfl,rfl,rfl,rfl,e0⟩,⟨rfl,rfl,rfl,rfl,e1⟩,⟨rfl,rfl,rfl,rfl,e2⟩,⟨rfl,rfl,rfl,rfl,e3⟩,⟨rfl,rfl,rfl,rfl,e5⟩,⟨rfl,rfl,rfl,rfl,e6⟩,⟨rfl,rfl,rfl,rfl,e7⟩,trivial⟩
 ·cases hc
noncomputable def jAp:Con Try.prog:=zVe.addW 88 zNz zHg
end Go.Proofs.Ytlmjdcbhpffanaa
/- The first that is wrong. -/
namespace Go.Proofs.Ytlmjdcbhpffanaa
open Go.Sx Go.Pl
set_option linter.unusedVariables false
set_option maxRecDepth 100000
theorem jAe(c:Cir)(p:Pln)(u:Int)(K:List It→St→Prop)(R:SV→List HO→Prop):W (xwp Try.prog X qZs [(63,[])] 60 (fxM 9 Try.f90 [] [⟨[0,1,0,1],[8,7,0,1],[]⟩]) [] [.at []] ⟨qQ 0 [.x 0 [],.fn (.func 63) [] [.p 1 0]],[.ext false (.s false 6 p.3.length (cLk p.3)),.cells [.v (.int .i64 c.1),.v (.int .i64 c.2),.v (.int .i64 c.3),.x 2 [],.x 3 [],.x 4 [],.x 5 [],.x 6 [],.x 7 [],.x 0 [],.x 8 [],.v (.int .i64 u)] 82,.ext false (.s false 7 c.4.length (cN c.4)),.ext false (.s false 1 c.5.length (cI c.5)),.ext false (.s false 2 c.6.length (cL c.6)),.ext false (.s false 2 c.7.length (cK c.7)),.ext false (.s false 2 p.1.length (cRg p.1)),.ext false (.s false 2 p.2.length (cTa p.2)),.ext false (.s false 1 p.4.length (cT p.4))]⟩ K R)=W (K [.at [0,1,0,1],.blk 0,.at [1,1]] (St.mk [(8,.v (qA 0)),(7,.v (qA (↑p.3.length:Int))),(0,.x 0 []),(1,SV.fn (Fn.func 63) [] [.p 1 0])] [.ext false (.s false 6 p.3.length (cLk p.3)),.cells [.v (qA c.1),.v (qA c.2),.v (qA c.3),.x 2 [],.x 3 [],.x 4 [],.x 5 [],.x 6 [],.x 7 [],.x 0 [],.x 8 [],.v (qA u)] 82,.ext false (.s false 7 c.4.length (cN c.4)),.ext false (.s false 1 c.5.length (cI c.5)),.ext false (.s false 2 c.6.length (cL c.6)),.ext false (.s false 2 c.7.length (cK c.7)),.ext false (.s false 2 p.1.length (cRg p.1)),.ext false (.s false 2 p.2.length (cTa p.2)),.ext false (.s false 1 p.4.length (cT p.4))])):=by kernel_rfl
theorem zUe(c:Cir)(p:Pln)(u:Int)(k M:Nat)(K:List It→St→Prop)(R:SV→List HO→Prop):W (xwp Try.prog X qZs [(63,[])] 60 (fxM 9 Try.f90 [] [⟨[0,1,0,1],[8,7,0,1],[]⟩]) [] (.at [0,0,1,0,1]::.rnd [0,0,1,0,1] M::[.blk 0,.at [1,1]]) ⟨[(8,.v (.int .i64 (k:Int))),(7,.v (.int .i64 (p.3.length:Int))),(0,.x 0 []),(1,.fn (.func 63) [] [.p 1 0])],[.ext false (.s false 6 p.3.length (cLk p.3)),.cells [.v (.int .i64 c.1),.v (.int .i64 c.2),.v (.int .i64 c.3),.x 2 [],.x 3 [],.x 4 [],.x 5 [],.x 6 [],.x 7 [],.x 0 [],.x 8 [],.v (.int .i64 u)] 82,.ext false (.s false 7 c.4.length (cN c.4)),.ext false (.s false 1 c.5.length (cI c.5)),.ext false (.s false 2 c.6.length (cL c.6)),.ext false (.s false 2 c.7.length (cK c.7)),.ext false (.s false 2 p.1.length (cRg p.1)),.ext false (.s false 2 p.2.length (cTa p.2)),.ext false (.s false 1 p.4.length (cT p.4))]⟩ K R)=W (bif decide ((↑k:Int)<(↑p.3.length:Int)) then(∀ M:Mem,(0:Int)≤(↑k:Int)∧(↑k:Int)<(↑p.3.length:Int))∧(∀ M:Mem,k<List.length p.3)∧lSh c.1 c.2 c.3 c.4.length c.5.length c.6.length c.7.length p.1.length p.2.length p.3.length p.4.length (cN c.4) (cI c.5) (cL c.6) (cK c.7) (cRg p.1) (cTa p.2) (cLk p.3) (cT p.4) fun(c_1:Cir) (p_1:Pln)=>bif !qNu c_1 p_1 u (gLk p.3 k).1.1 (gLk p.3 k).1.2.1 (gLk p.3 k).1.2.2 then R (.v (qA (↑k:Int))) [.ext false (.s false 6 p.3.length (cLk p.3)),.cells [.v (qA c.1),.v (qA c.2),.v (qA c.3),.x 2 [],.x 3 [],.x 4 [],.x 5 [],.x 6 [],.x 7 [],.x 0 [],.x 8 [],.v (qA u)] 82,.ext false (.s false 7 c.4.length (cN c.4)),.ext false (.s false 1 c.5.length (cI c.5)),.ext false (.s false 2 c.6.length (cL c.6)),.ext false (.s false 2 c.7.length (cK c.7)),.ext false (.s false 2 p.1.length (cRg p.1)),.ext false (.s false 2 p.2.length (cTa p.2)),.ext false (.s false 1 p.4.length (cT p.4))] else lSh c.1 c.2 c.3 c.4.length c.5.length c.6.length c.7.length p.1.length p.2.length p.3.length p.4.length (cN c.4) (cI c.5) (cL c.6) (cK c.7) (cRg p.1) (cTa p.2) (cLk p.3) (cT p.4) fun(c_2:Cir) (p_2:Pln)=>bif !qNu c_2 p_2 u (gLk p.3 k).2.1 (gLk p.3 k).2.2.1 (gLk p.3 k).2.2.2 then R (.v (qA (↑k:Int))) [.ext false (.s false 6 p.3.length (cLk p.3)),.cells [.v (qA c.1),.v (qA c.2),.v (qA c.3),.x 2 [],.x 3 [],.x 4 [],.x 5 [],.x 6 [],.x 7 [],.x 0 [],.x 8 [],.v (qA u)] 82,.ext false (.s false 7 c.4.length (cN c.4)),.ext false (.s false 1 c.5.length (cI c.5)),.ext false (.s false 2 c.6.length (cL c.6)),.ext false (.s false 2 c.7.length (cK c.7)),.ext false (.s false 2 p.1.length (cRg p.1)),.ext false (.s false 2 p.2.length (cTa p.2)),.ext false (.s false 1 p.4.length (cT p.4))] else K [.rnd [0,0,1,0,1] M,.blk 0,.at [1,1]] (St.mk [(8,.v (qA (IntKind.wrap .i64 ((↑k:Int)+(1:Int))))),(7,.v (qA (↑p.3.length:Int))),(0,.x 0 []),(1,SV.fn (Fn.func 63) [] [.p 1 0])] [.ext false (.s false 6 p.3.length (cLk p.3)),.cells [.v (qA c.1),.v (qA c.2),.v (qA c.3),.x 2 [],.x 3 [],.x 4 [],.x 5 [],.x 6 [],.x 7 [],.x 0 [],.x 8 [],.v (qA u)] 82,.ext false (.s false 7 c.4.length (cN c.4)),.ext false (.s false 1 c.5.length (cI c.5)),.ext false (.s false 2 c.6.length (cL c.6)),.ext false (.s false 2 c.7.length (cK c.7)),.ext false (.s false 2 p.1.length (cRg p.1)),.ext false (.s false 2 p.2.length (cTa p.2)),.ext false (.s false 1 p.4.length (cT p.4))]) else R (.v (qA (-1))) [.ext false (.s false 6 p.3.length (cLk p.3)),.cells [.v (qA c.1),.v (qA c.2),.v (qA c.3),.x 2 [],.x 3 [],.x 4 [],.x 5 [],.x 6 [],.x 7 [],.x 0 [],.x 8 [],.v (qA u)] 82,.ext false (.s false 7 c.4.length (cN c.4)),.ext false (.s false 1 c.5.length (cI c.5)),.ext false (.s false 2 c.6.length (cL c.6)),.ext false (.s false 2 c.7.length (cK c.7)),.ext false (.s false 2 p.1.length (cRg p.1)),.ext false (.s false 2 p.2.length (cTa p.2)),.ext false (.s false 1 p.4.length (cT p.4))]):=by kernel_rfl
theorem qWn(c:Cir)(hc:c.ok)(p:Pln)(hp:p.ok)(u:Int)(Q:SV→List HO→Prop):∀(d k:Nat),k+d=p.3.length→Q (.v (.int .i64 (qX (lkB c p u) k (p.3.drop k)))) [.ext false (.s false 6 p.3.length (cLk p.3)),.cells [.v (.int .i64 c.1),.v (.int .i64 c.2),.v (.int .i64 c.3),.x 2 [],.x 3 [],.x 4 [],.x 5 [],.x 6 [],.x 7 [],.x 0 [],.x 8 [],.v (.int .i64 u)] 82,.ext false (.s false 7 c.4.length (cN c.4)),.ext false (.s false 1 c.5.length (cI c.5)),.ext false (.s false 2 c.6.length (cL c.6)),.ext false (.s false 2 c.7.length (cK c.7)),.ext false (.s false 2 p.1.length (cRg p.1)),.ext false (.s false 2 p.2.length (cTa p.2)),.ext false (.s false 1 p.4.length (cT p.4))] →
  zZ Try.prog 9 Try.f90 Q (.rnd [0,0,1,0,1] (d+1)::[.blk 0,.at [1,1]]) ⟨[(8,.v (.int .i64 (k:Int))),(7,.v (.int .i64 (p.3.length:Int))),(0,.x 0 []),(1,.fn (.func 63) [] [.p 1 0])],[.ext false (.s false 6 p.3.length (cLk p.3)),.cells [.v (.int .i64 c.1),.v (.int .i64 c.2),.v (.int .i64 c.3),.x 2 [],.x 3 [],.x 4 [],.x 5 [],.x 6 [],.x 7 [],.x 0 [],.x 8 [],.v (.int .i64 u)] 82,.ext false (.s false 7 c.4.length (cN c.4)),.ext false (.s false 1 c.5.length (cI c.5)),.ext false (.s false 2 c.6.length (cL c.6)),.ext false (.s false 2 c.7.length (cK c.7)),.ext false (.s false 2 p.1.length (cRg p.1)),.ext false (.s false 2 p.2.length (cTa p.2)),.ext false (.s false 1 p.4.length (cT p.4))]⟩
 | 0,k,hd,hq=>by
  refine FOk.rnd (qR hm 60 ((zUe c p u k 0 _ _).mpr ⟨?_⟩))
  rw[qF,if_neg (by omega)]
  rw[show k=p.3.length by omega,List.drop_length] at hq
  exact hq
 | d+1,k,hd,hq=>by
  have hk:k<p.3.length:=by omega
  have hb1:=hp.r.2
  have hb2:=hp.l.2
  have hb3:=hp.i.2
  rw[qWo hk] at hq
  refine FOk.rnd (qR hm 60 ((zUe c p u k (d+1) _ _).mpr ⟨?_⟩))
  rw[qF,if_pos (by omega),qN _ (by omega)]
  refine aI (And.intro (fun _=>by omega) ?_)
  refine wP c hc p hp (qK (fun h=>?_) (fun h=>?_))
  ·rw[show lkB c p u (gLk p.3 k)=true by rw[lkB,h]; rfl] at hq; exact hq
  refine wP c hc p hp (qK (fun h2=>?_) (fun h2=>?_))
  ·rw[show lkB c p u (gLk p.3 k)=true by rw[lkB,h]; exact h2] at hq; exact hq
  ·rw[show lkB c p u (gLk p.3 k)=false by rw[lkB,h]; exact h2] at hq; exact qWn c hc p hp u Q d (k+1) (by omega) hq
theorem jBf:Try.f90.body.isSome=true:=by kernel_rfl
theorem zYf:Nat.ble [SV.x 0 [],.fn (.func 63) [] [.p 1 0]].length Try.f90.ntmps=true:=by kernel_rfl
theorem zPj(c:Cir)(hc:c.ok)(p:Pln)(hp:p.ok)(u:Int)(Q:SV→List HO→Prop)(hq:Q (.v (.int .i64 (qX (lkB c p u) 0 p.3))) [.ext false (.s false 6 p.3.length (cLk p.3)),.cells [.v (.int .i64 c.1),.v (.int .i64 c.2),.v (.int .i64 c.3),.x 2 [],.x 3 [],.x 4 [],.x 5 [],.x 6 [],.x 7 [],.x 0 [],.x 8 [],.v (.int .i64 u)] 82,.ext false (.s false 7 c.4.length (cN c.4)),.ext false (.s false 1 c.5.length (cI c.5)),.ext false (.s false 2 c.6.length (cL c.6)),.ext false (.s false 2 c.7.length (cK c.7)),.ext false (.s false 2 p.1.length (cRg p.1)),.ext false (.s false 2 p.2.length (cTa p.2)),.ext false (.s false 1 p.4.length (cT p.4))]):zL Try.prog 9 90 [.x 0 [],.fn (.func 63) [] [.p 1 0]] [.ext false (.s false 6 p.3.length (cLk p.3)),.cells [.v (.int .i64 c.1),.v (.int .i64 c.2),.v (.int .i64 c.3),.x 2 [],.x 3 [],.x 4 [],.x 5 [],.x 6 [],.x 7 [],.x 0 [],.x 8 [],.v (.int .i64 u)] 82,.ext false (.s false 7 c.4.length (cN c.4)),.ext false (.s false 1 c.5.length (cI c.5)),.ext false (.s false 2 c.6.length (cL c.6)),.ext false (.s false 2 c.7.length (cK c.7)),.ext false (.s false 2 p.1.length (cRg p.1)),.ext false (.s false 2 p.2.length (cTa p.2)),.ext false (.s false 1 p.4.length (cT p.4))] Q:=by
 refine qJ Try.func90 jBf ?_ ?_
 ·exact zYf
 refine qR hm 60 ((jAe c p u _ _).mpr ⟨?_⟩)
 exact FOk.loop (p.3.length+1) (by kernel_rfl) (qWn c hc p hp u Q p.3.length 0 (by omega) hq)
noncomputable def zPg:List SV→List HO→Option ((SV→List HO→Prop)→Prop)
 | [.x 0 [],.fn (.func 63) [] [.p 1 0]],[.ext false (.s false 6 m2 d2),.cells [.v (.int .i64 fx),.v (.int .i64 ad),.v (.int .i64 ins),.x 2 [],.x 3 [],.x 4 [],.x 5 [],.x 6 [],.x 7 [],.x 0 [],.x 8 [],.v (.int .i64 u)] 82,.ext false (.s false 7 n0 c0),.ext false (.s false 1 n1 c1),.ext false (.s false 2 n2 c2),.ext false (.s false 2 n3 c3),.ext false (.s false 2 m0 d0),.ext false (.s false 2 m1 d1),.ext false (.s false 1 m3 d3)]=>some fun Q=>lSh fx ad ins n0 n1 n2 n3 m0 m1 m2 m3 c0 c1 c2 c3 d0 d1 d2 d3 fun c p=>Q (.v (.int .i64 (qX (lkB c p u) 0 p.3))) [.ext false (.s false 6 p.3.length (cLk p.3)),.cells [.v (.int .i64 c.1),.v (.int .i64 c.2),.v (.int .i64 c.3),.x 2 [],.x 3 [],.x 4 [],.x 5 [],.x 6 [],.x 7 [],.x 0 [],.x 8 [],.v (.int .i64 u)] 82,.ext false (.s false 7 c.4.length (cN c.4)),.ext false (.s false 1 c.5.length (cI c.5)),.ext false (.s false 2 c.6.length (cL c.6)),.ext false (.s false 2 c.7.length (cK c.7)),.ext false (.s false 2 p.1.length (cRg p.1)),.ext false (.s false 2 p.2.length (cTa p.2)),.ext false (.s false 1 p.4.length (cT p.4))]
 | _,_=>none
theorem zJf(args:List SV)(h:List HO)(tr:(SV→List HO→Prop)→Prop)(Q:SV→List HO→Prop)(hc:zPg args h=some tr)(ht:tr Q):zL Try.prog h.length 90 args h Q:=by
 unfold zPg at hc
 split at hc
 ·simp only[sI] at hc
  subst hc
  obtain⟨c,rfl,rfl,rfl,⟨rfl,e0⟩,⟨rfl,e1⟩,⟨rfl,e2⟩,⟨rfl,e3⟩,hk,ht2⟩:=ht.h.h
  obtain⟨p,⟨rfl,e4⟩,⟨rfl,e5⟩,⟨rfl,e6⟩,⟨rfl,e7⟩,hp,hq⟩:=ht2.h
  exact qI.ac (zPj c hk p hp _ Q hq) ⟨⟨rfl,rfl,rfl,rfl,e6⟩,HE.refl _,⟨rfl,rfl,rfl,rfl,e0⟩,⟨rfl,rfl,rfl,rfl,e1⟩,⟨rfl,rfl,rfl,rfl,e2⟩,⟨rfl,rfl,rfl,rfl,e3⟩,⟨rfl,rfl,rfl,rfl,e4⟩,⟨rfl,rfl,rfl,rfl,e5⟩,⟨rfl,rfl,rfl,rfl,e7⟩,trivial⟩
 ·cases hc
noncomputable def zSi:Con Try.prog:=jAp.addW 90 zPg zJf
end Go.Proofs.Ytlmjdcbhpffanaa
/- Is a plan right: plain. -/
namespace Go.Pl
open Go.Sx
def qBs(c:Cir)(p:Pln)(u:Int):Bool:=bif decide ((p.rg.length:Int)≤(64:Int)) then bif decide ((p.lk.length:Int)≤(256:Int)) then bif qNq c.1 [] p.tb then bif(p.is.length:Int)==c.3 then bif p.is.any (wK u) then false else bif p.rg.any (rgN c p) then false else !p.lk.any (lkB c p u) else false else false else false else false
end Go.Pl
namespace Go.Proofs.Ytlmjdcbhpffanaa
open Go.Sx Go.Pl
set_option linter.unusedVariables false
set_option maxRecDepth 100000
noncomputable def zUb:Con Try.prog:=(((zSi.setW 58).setW 45).setW 59).setW 62
end Go.Proofs.Ytlmjdcbhpffanaa
/- Is a plan right? -/
namespace Go.Proofs.Ytlmjdcbhpffanaa
open Go.Sx Go.Pl
set_option linter.unusedVariables false
set_option maxRecDepth 100000
theorem zZd(c:Cir)(p:Pln)(u:Int)(K:List It→St→Prop)(R:SV→List HO→Prop):W (xwp Try.prog X zUb [(58,[]),(45,[]),(59,[]),(62,[])] 60 (qO Try.f33 [] []) [] [.at []] ⟨qQ 0 [.agg [.v (.int .i64 c.1),.v (.int .i64 c.2),.v (.int .i64 c.3),.x 0 [],.x 1 [],.x 2 [],.x 3 [],.x 4 [],.x 5 [],.x 6 [],.x 7 [],.v (.int .i64 u)]],[.ext false (.s false 7 c.4.length (cN c.4)),.ext false (.s false 1 c.5.length (cI c.5)),.ext false (.s false 2 c.6.length (cL c.6)),.ext false (.s false 2 c.7.length (cK c.7)),.ext false (.s false 2 p.1.length (cRg p.1)),.ext false (.s false 2 p.2.length (cTa p.2)),.ext false (.s false 6 p.3.length (cLk p.3)),.ext false (.s false 1 p.4.length (cT p.4))]⟩ K R)=W (bif decide ((↑p.1.length:Int)≤(64:Int)) then bif decide ((↑p.3.length:Int)≤(256:Int)) then lSh c.1 c.2 c.3 c.4.length c.5.length c.6.length c.7.length p.1.length p.2.length p.3.length p.4.length (cN c.4) (cI c.5) (cL c.6) (cK c.7) (cRg p.1) (cTa p.2) (cLk p.3) (cT p.4) fun(c_1:Cir) (p_1:Pln)=>bif qNq c_1.1 [] p_1.2 then bif(↑p.4.length:Int)==c.3 then lSh c.1 c.2 c.3 c.4.length c.5.length c.6.length c.7.length p.1.length p.2.length p.3.length p.4.length (cN c.4) (cI c.5) (cL c.6) (cK c.7) (cRg p.1) (cTa p.2) (cLk p.3) (cT p.4) fun(c_2:Cir) (p:Pln)=>bif !decide ((0:Int)≤qX (wK u) 0 p.4) then lSh c.1 c.2 c.3 c_2.4.length c_2.5.length c_2.6.length c_2.7.length p.1.length p.2.length p.3.length p.4.length (cN c_2.4) (cI c_2.5) (cL c_2.6) (cK c_2.7) (cRg p.1) (cTa p.2) (cLk p.3) (cT p.4) fun(c:Cir) (p:Pln)=>bif !decide ((0:Int)≤qX (rgN c p) 0 p.1) then lSh c.1 c.2 c.3 c.4.length c.5.length c.6.length c.7.length p.1.length p.2.length p.3.length p.4.length (cN c.4) (cI c.5) (cL c.6) (cK c.7) (cRg p.1) (cTa p.2) (cLk p.3) (cT p.4) fun(c:Cir) (p:Pln)=>R (.v (.bool !decide ((0:Int)≤qX (lkB c p u) 0 p.3))) [] else R (.v (.bool false)) [] else R (.v (.bool false)) [] else R (.v (.bool false)) [] else R (.v (.bool false)) [] else R (.v (.bool false)) [] else R (.v (.bool false)) []):=by kernel_rfl
theorem zZj:Try.f33.body.isSome=true:=by kernel_rfl
theorem jAv(c:Cir)(u:Int):Nat.ble ([.agg [.v (.int .i64 c.1),.v (.int .i64 c.2),.v (.int .i64 c.3),.x 0 [],.x 1 [],.x 2 [],.x 3 [],.x 4 [],.x 5 [],.x 6 [],.x 7 [],.v (.int .i64 u)]]:List SV).length Try.f33.ntmps=true:=by kernel_rfl
theorem zMs(c:Cir)(hc:c.ok)(p:Pln)(hp:p.ok)(u:Int)(Q:SV→List HO→Prop)(hq:Q (.v (.bool (qBs c p u))) []):qI Try.prog 33 [.agg [.v (.int .i64 c.1),.v (.int .i64 c.2),.v (.int .i64 c.3),.x 0 [],.x 1 [],.x 2 [],.x 3 [],.x 4 [],.x 5 [],.x 6 [],.x 7 [],.v (.int .i64 u)]] [.ext false (.s false 7 c.4.length (cN c.4)),.ext false (.s false 1 c.5.length (cI c.5)),.ext false (.s false 2 c.6.length (cL c.6)),.ext false (.s false 2 c.7.length (cK c.7)),.ext false (.s false 2 p.1.length (cRg p.1)),.ext false (.s false 2 p.2.length (cTa p.2)),.ext false (.s false 6 p.3.length (cLk p.3)),.ext false (.s false 1 p.4.length (cT p.4))] Q:=by
 refine qJ Try.func33 zZj ?_ ?_
 ·exact jAv c u
 refine qE hm 60 ((zZd c p u _ _).mpr ⟨?_⟩)
 refine yA (Q:=fun v=>Q (.v (.bool v)) []) hq (fun _ hq=>yA (Q:=fun v=>Q (.v (.bool v)) []) hq (fun _ hq=>wP c hc p hp (yA (Q:=fun v=>Q (.v (.bool v)) []) hq (fun _ hq=>yA (Q:=fun v=>Q (.v (.bool v)) []) hq (fun _ hq=>wP c hc p hp ?_) (fun _ h=>h)) (fun _ h=>h))) (fun _ h=>h)) (fun _ h=>h)
 rw[zU,zC]
 refine yA (Q:=fun v=>Q (.v (.bool v)) []) hq (fun _ h=>h) (fun _ hq=>wP c hc p hp ?_)
 rw[zU,zC]
 refine yA (Q:=fun v=>Q (.v (.bool v)) []) hq (fun _ h=>h) (fun _ hq=>wP c hc p hp ?_)
 rw[zU]
 exact hq
noncomputable def zQo:List SV→List HO→Option ((SV→List HO→Prop)→Prop)
 | [.agg [.v (.int .i64 fx),.v (.int .i64 ad),.v (.int .i64 ins),.x 0 [],.x 1 [],.x 2 [],.x 3 [],.x 4 [],.x 5 [],.x 6 [],.x 7 [],.v (.int .i64 u)]],[.ext false (.s false 7 n0 c0),.ext false (.s false 1 n1 c1),.ext false (.s false 2 n2 c2),.ext false (.s false 2 n3 c3),.ext false (.s false 2 m0 d0),.ext false (.s false 2 m1 d1),.ext false (.s false 6 m2 d2),.ext false (.s false 1 m3 d3)] =>
  some fun Q=>lSh fx ad ins n0 n1 n2 n3 m0 m1 m2 m3 c0 c1 c2 c3 d0 d1 d2 d3 fun c p=>Q (.v (.bool (qBs c p u))) []
 | _,_=>none
theorem zJl(args:List SV)(h:List HO)(tr:(SV→List HO→Prop)→Prop)(Q:SV→List HO→Prop)(hc:zQo args h=some tr)(ht:tr Q):qI Try.prog 33 args h Q:=by
 unfold zQo at hc
 split at hc
 ·simp only[sI] at hc
  subst hc
  obtain⟨c,rfl,rfl,rfl,⟨rfl,e0⟩,⟨rfl,e1⟩,⟨rfl,e2⟩,⟨rfl,e3⟩,hk,ht2⟩:=ht.h.h
  obtain⟨p,⟨rfl,e4⟩,⟨rfl,e5⟩,⟨rfl,e6⟩,⟨rfl,e7⟩,hp,hq⟩:=ht2.h
  exact qI.ac (zMs c hk p hp _ Q hq) ⟨⟨rfl,rfl,rfl,rfl,e0⟩,⟨rfl,rfl,rfl,rfl,e1⟩,⟨rfl,rfl,rfl,rfl,e2⟩,⟨rfl,rfl,rfl,rfl,e3⟩,⟨rfl,rfl,rfl,rfl,e4⟩,⟨rfl,rfl,rfl,rfl,e5⟩,⟨rfl,rfl,rfl,rfl,e6⟩,⟨rfl,rfl,rfl,rfl,e7⟩,trivial⟩
 ·cases hc
noncomputable def zWd:Con Try.prog:=zSi.add 33 zQo zJl
end Go.Proofs.Ytlmjdcbhpffanaa
/- Check of a plan. -/
namespace Go.Pl
open Go.Sx
def qAl(c:Cir)(k:Int)(p:Pln):Int:=if xA c≠0 then xA c else if k<3 then 60 else if 5<k then 60 else if qBs c p (usN k) then 0 else 140
theorem qHz{c:Cir}{k:Int}{p:Pln}(h:qAl c k p=0):xA c=0∧3≤k∧k≤5∧qBs c p (usN k)=true:=by
 rw[qAl] at h
 by_cases h0:xA c=0
 ·rw[if_neg (fun hh=>hh h0)] at h
  by_cases h1:k<3
  ·rw[if_pos h1] at h; cases h
  rw[if_neg h1] at h
  by_cases h2:5<k
  ·rw[if_pos h2] at h; cases h
  rw[if_neg h2] at h
  cases h3:qBs c p (usN k) with
  | false=>rw[h3] at h; cases h
  | true=>exact⟨h0,by omega,by omega,rfl⟩
 ·rw[if_pos h0] at h; exact absurd h h0
end Go.Pl
namespace Go.Proofs.Ytlmjdcbhpffanaa
open Go.Sx Go.Pl
set_option linter.unusedVariables false
set_option maxRecDepth 100000
theorem zZk(c:Cir)(p:Pln)(k:Int)(K:List It→St→Prop)(R:SV→List HO→Prop):W (xwp Try.prog X zWd [(32,[])] 60 (qO Try.f12 [] []) [] [.at []] ⟨qQ 0 [.agg [.v (.int .i64 c.fx),.v (.int .i64 c.ad),.v (.int .i64 c.ins),.x 0 [],.x 1 [],.x 2 [],.x 3 []],.v (.int .i64 k),.agg [.x 4 [],.x 5 [],.x 6 [],.x 7 []]],[.ext false (.s false 7 c.4.length (cN c.4)),.ext false (.s false 1 c.5.length (cI c.5)),.ext false (.s false 2 c.6.length (cL c.6)),.ext false (.s false 2 c.7.length (cK c.7)),.ext false (.s false 2 p.1.length (cRg p.1)),.ext false (.s false 2 p.2.length (cTa p.2)),.ext false (.s false 6 p.3.length (cLk p.3)),.ext false (.s false 1 p.4.length (cT p.4))]⟩ K R)=W (lC c.1 c.2 c.3 c.4.length c.5.length c.6.length c.7.length (cN c.4) (cI c.5) (cL c.6) (cK c.7) fun(c_1:Cir)=>bif !xA c_1==(0:Int) then R (.v (qA (xA c_1))) [] else bif decide (k<(3:Int)) then R (.v (qA 60)) [] else bif decide ((5:Int)<k) then R (.v (qA 60)) [] else lSh c.1 c.2 c.3 c.4.length c.5.length c.6.length c.7.length p.1.length p.2.length p.3.length p.4.length (cN c.4) (cI c.5) (cL c.6) (cK c.7) (cRg p.1) (cTa p.2) (cLk p.3) (cT p.4) fun(c:Cir) (p:Pln)=>bif !qBs c p (usN k) then R (.v (qA 140)) [] else R (.v (qA 0)) []):=by kernel_rfl
theorem zXx:Try.f12.body.isSome=true:=by kernel_rfl
theorem zWp(c:Cir)(k:Int):Nat.ble ([.agg [.v (.int .i64 c.fx),.v (.int .i64 c.ad),.v (.int .i64 c.ins),.x 0 [],.x 1 [],.x 2 [],.x 3 []],.v (.int .i64 k),.agg [.x 4 [],.x 5 [],.x 6 [],.x 7 []]]:List SV).length Try.f12.ntmps=true:=by kernel_rfl
theorem zQa(c:Cir)(hc:c.ok)(p:Pln)(hp:p.ok)(k:Int)(Q:SV→List HO→Prop)(hq:Q (.v (.int .i64 (qAl c k p))) []):qI Try.prog 12 [.agg [.v (.int .i64 c.fx),.v (.int .i64 c.ad),.v (.int .i64 c.ins),.x 0 [],.x 1 [],.x 2 [],.x 3 []],.v (.int .i64 k),.agg [.x 4 [],.x 5 [],.x 6 [],.x 7 []]] [.ext false (.s false 7 c.4.length (cN c.4)),.ext false (.s false 1 c.5.length (cI c.5)),.ext false (.s false 2 c.6.length (cL c.6)),.ext false (.s false 2 c.7.length (cK c.7)),.ext false (.s false 2 p.1.length (cRg p.1)),.ext false (.s false 2 p.2.length (cTa p.2)),.ext false (.s false 6 p.3.length (cLk p.3)),.ext false (.s false 1 p.4.length (cT p.4))] Q:=by
 refine qJ Try.func12 zXx ?_ ?_
 ·exact zWp c k
 refine qE hm 60 ((zZk c p k _ _).mpr ⟨?_⟩)
 rw[qAl] at hq
 refine qLj c hc ?_
 rw[zC,zF]
 refine qH (fun h0=>?_) (fun h0=>by rw[if_pos h0] at hq; exact hq)
 rw[if_neg (fun h=>h h0)] at hq
 rw[qF,qF]
 refine qH (fun h1=>by rw[if_pos h1] at hq; exact hq) (fun h1=>qH (fun h2=>by rw[if_neg h1,if_pos h2] at hq; exact hq) (fun h2=>?_))
 rw[if_neg h1,if_neg h2] at hq
 refine wP c hc p hp ?_
 rw[zC]
 refine qK (fun h=>?_) (fun h=>?_)
 ·rw[h] at hq; exact hq
 ·rw[h] at hq; exact hq
noncomputable def zOb:List SV→List HO→Option ((SV→List HO→Prop)→Prop)
 | [.agg [.v (.int .i64 fx),.v (.int .i64 ad),.v (.int .i64 ins),.x 0 [],.x 1 [],.x 2 [],.x 3 []],.v (.int .i64 k),.agg [.x 4 [],.x 5 [],.x 6 [],.x 7 []]],[.ext false (.s false 7 n0 c0),.ext false (.s false 1 n1 c1),.ext false (.s false 2 n2 c2),.ext false (.s false 2 n3 c3),.ext false (.s false 2 m0 d0),.ext false (.s false 2 m1 d1),.ext false (.s false 6 m2 d2),.ext false (.s false 1 m3 d3)] =>
  some fun Q=>lSh fx ad ins n0 n1 n2 n3 m0 m1 m2 m3 c0 c1 c2 c3 d0 d1 d2 d3 fun c p=>Q (.v (.int .i64 (qAl c k p))) []
 | _,_=>none
theorem zHv(args:List SV)(h:List HO)(tr:(SV→List HO→Prop)→Prop)(Q:SV→List HO→Prop)(hc:zOb args h=some tr)(ht:tr Q):qI Try.prog 12 args h Q:=by
 unfold zOb at hc
 split at hc
 ·simp only[sI] at hc
  subst hc
  obtain⟨c,rfl,rfl,rfl,⟨rfl,e0⟩,⟨rfl,e1⟩,⟨rfl,e2⟩,⟨rfl,e3⟩,hk,ht2⟩:=ht.h.h
  obtain⟨p,⟨rfl,e4⟩,⟨rfl,e5⟩,⟨rfl,e6⟩,⟨rfl,e7⟩,hp,hq⟩:=ht2.h
  exact qI.ac (zQa c hk p hp _ Q hq) ⟨⟨rfl,rfl,rfl,rfl,e0⟩,⟨rfl,rfl,rfl,rfl,e1⟩,⟨rfl,rfl,rfl,rfl,e2⟩,⟨rfl,rfl,rfl,rfl,e3⟩,⟨rfl,rfl,rfl,rfl,e4⟩,⟨rfl,rfl,rfl,rfl,e5⟩,⟨rfl,rfl,rfl,rfl,e6⟩,⟨rfl,rfl,rfl,rfl,e7⟩,trivial⟩
 ·cases hc
noncomputable def qWx:Con Try.prog:=zWd.add 12 zOb zHv
end Go.Proofs.Ytlmjdcbhpffanaa
/- An argument that is an empty slice of frozen memory. -/
namespace Go.Sx
open Go.RowKit
theorem qI.emptyX{P:Program}{f:FuncId}{Q:SV→List HO→Prop}{b:Bool}{sz:Nat}{c:Nat→Nat→qB}(k0:∀ cap,qI P f [.v (.slice none 0 cap)] [] Q)(k1:∀ ad cap,qI P f [.v (.slice (some ad) 0 cap)] [] Q):qI P f [.x 0 []] [.ext b (.s false sz 0 c)] Q:=by
 intro F hF w0 e hm S _
 obtain⟨oa,⟨cap,hv,_⟩,_⟩:=S.sat 0 _ rfl
 have hM:mem w0.w e [.ext b (.s false sz 0 c)]=mem w0.w e []:=by
  funext x
  unfold mem
  have h1:¬ wE e [.ext b (.s false sz 0 c)] x:=by
   rintro⟨i,ho,hi,hb⟩
   match i,hi with
   | 0,hi=>simp only[List.getElem?_cons_zero,sI] at hi; subst hi; exact hb
  have h2:¬ wE e [] x:=by
   rintro⟨i,ho,hi,_⟩
   cases hi
  rw[if_neg h1,if_neg h2]
 have S2:qP F w0 [] e w0.w:=⟨S.os,S.tape,S.output,fun i ho hi=>(by cases hi),fun i ho hi=>(by cases hi),fun i j ho ho' b hi=>(by cases hi),by rw[← hM]; exact S.fact,fun i ho b hi=>(by cases hi),S.zlt,S.ez,by rw[hm]; exact⟨Nat.le_refl _,fun i hi=>by omega⟩⟩
 have e1:qL e [SV.x 0 []]=[.slice oa 0 cap]:=by simp only[qL,den,hv]
 rw[e1]
 cases oa with
 | none=>exact k0 cap F hF w0 e hm S2 ⟨trivial,trivial⟩
 | some ad=>exact k1 ad cap F hF w0 e hm S2 ⟨trivial,trivial⟩
theorem qI.nilS{P:Program}{m:Nat}{f:FuncId}{args:List SV}{h:List HO}{Q:SV→List HO→Prop}(T:TypeId)(sz:Nat)(k:zL P m f args h fun r h'=>Q r h'∨(r=.v (.slice none 0 0)∧h'=[]∧Q (.o 0) [.rowc T sz 0 (.lit 1 [])])):zL P m f args h Q:=by
 intro F hF w0 e hm0 S hw
 refine(k F hF w0 e hm0 S hw).mono fun E w' hE=>?_
 obtain⟨e',r,h',hq,h2,h3,h4⟩:=hE
 rcases hq with hq | ⟨rfl,rfl,hq⟩
 ·exact⟨e',r,h',hq,h2,h3,h4⟩
 ·refine⟨e'.setR 0 (.slice none 0 0),.o 0,_,hq,Nat.zero_lt_one,?_,by rw[h4]; simp [den,Env.setR]⟩
  exact h3.newRowc hF (w':=w') T sz 0 _ (.slice none 0 0) (fun _=>⟨[],World.ownsRow_nil w' 0 T sz,fun u hu=>(by cases hu),fun k hk=>by omega⟩) (fun b hb=>by cases hb) ⟨rfl,rfl,rfl,Nat.le_refl _,fun _ _ _=>rfl⟩
end Go.Sx
/- A value put into a column: plain. -/
namespace Go.Pl
open Go.Sx
structure lSe (n : Nat) (c : Nat → Nat → qB) (r : Int) (ds : List Int) (k1 k2 : List Nat → Nat → Prop) : Prop where
  h : ∃ (l : List Nat) (v : Nat), n = l.length ∧ IsC n 4 c (cE l) ∧ ds = eI v ∧ 0 ≤ r ∧ r ≤ 1000000 ∧ l.length ≤ 1000000 ∧ (r < (l.length : Int) → k1 l v) ∧ ((l.length : Int) ≤ r → k2 l v)
theorem qZz{l:List Nat}{r v:Nat}(h:r<l.length):zO l r v=l.set r v:=by
 rw[zO,show r+1-l.length=0 by omega,List.replicate_zero,List.append_nil]
theorem qPe{l:List Nat}{r v:Nat}(h:l.length≤r):zO (l++[0]) r v=zO l r v:=by
 rw[zO,zO,List.length_append,List.length_singleton,List.append_assoc]
 congr 2
 rw[show r+1-l.length=(r+1-(l.length+1))+1 by omega,List.replicate_succ]
 rfl
theorem zLa:[qB.v (qD (0:Int)),qB.v (qD (0:Int)),qB.v (qD (0:Int)),qB.v (qD (0:Int))]=[qB.v (.int .u64 (qC 0 0:Nat)),qB.v (.int .u64 (qC 0 1:Nat)),qB.v (.int .u64 (qC 0 2:Nat)),qB.v (.int .u64 (qC 0 3:Nat))]:=by
 simp only[qCh]; rfl
end Go.Pl
namespace Go.Proofs.Ytlmjdcbhpffanaa
open Go.Sx Go.Pl
set_option linter.unusedVariables false
set_option maxRecDepth 100000
end Go.Proofs.Ytlmjdcbhpffanaa
/- Columns cloned; a value put into a column. -/
namespace Go.Proofs.Ytlmjdcbhpffanaa
open Go.Sx Go.Pl
set_option linter.unusedVariables false
set_option maxRecDepth 100000
theorem zXm(l:List Nat)(K:List It→St→Prop)(R:SV→List HO→Prop):W (xwp Try.prog X qWx [] 60 (qO Try.f38 [] []) [] [.at []] ⟨qQ 0 [.x 0 []],[.ext false (.s false 4 l.length (cE l))]⟩ K R)=W ((∀ M:Mem,0<List.length l)∧(∀ M:Mem,(0+List.length l)*32≤140737488355328∧0+List.length l≤140737488355328)∧R (.o 0) [.rowc 56 4 (0+List.length l) (.app 0 (.lit 4 []) (.fn (cE l)))]):=by kernel_rfl
theorem zWw(cap:Nat)(K:List It→St→Prop)(R:SV→List HO→Prop):W (xwp Try.prog X qWx [] 60 (qO Try.f38 [] []) [] [.at []] ⟨qQ 0 [.v (.slice none 0 cap)],[]⟩ K R)=W (R (.v (Value.slice none 0 0)) []):=by kernel_rfl
theorem jBk(ad:Addr)(cap:Nat)(K:List It→St→Prop)(R:SV→List HO→Prop):W (xwp Try.prog X qWx [] 60 (qO Try.f38 [] []) [] [.at []] ⟨qQ 0 [.v (.slice (some ad) 0 cap)],[]⟩ K R)=W ((∀ M:Mem,0≤140737488355328∧0≤140737488355328)∧R (.o 0) [.rowc 56 4 0 (.app 0 (.lit 4 []) (.lit 1 []))]):=by kernel_rfl
theorem zVx(l:List Nat)(r:Int)(v:Nat)(K:List It→St→Prop)(R:SV→List HO→Prop):W (xwp Try.prog X qWx [] 60 (fxM 1 Try.f40 [] [⟨[0,0,1],[0,1,5],[]⟩]) [] [.at []] ⟨qQ 0 [.o 0,.v (.int .i64 r),.agg [.v (.int .u64 (qC v 0:Nat)),.v (.int .u64 (qC v 1:Nat)),.v (.int .u64 (qC v 2:Nat)),.v (.int .u64 (qC v 3:Nat))]],[.rowc 56 4 l.length (.fn (cE l))]⟩ K R)=W (K [.at [0,0,1],.blk 0,.at [1,1]] (St.mk [(0,.o 0),(1,.v (qA r)),(5,.p 1 0)] [.rowc 56 4 l.length (.fn (cE l)),.cells [.v (qD (↑(qC v 0):Int)),.v (qD (↑(qC v 1):Int)),.v (qD (↑(qC v 2):Int)),.v (qD (↑(qC v 3):Int))] 56])):=by kernel_rfl
theorem zTi(l:List Nat)(r:Int)(v n M:Nat)(K:List It→St→Prop)(R:SV→List HO→Prop):W (xwp Try.prog X qWx [] 60 (fxM 1 Try.f40 [] [⟨[0,0,1],[0,1,5],[]⟩]) [] (.at [0,0,0,1]::.rnd [0,0,0,1] M::[.blk 0,.at [1,1]]) ⟨[(0,.o 0),(1,.v (.int .i64 r)),(5,.p 1 0)],[.rowc 56 4 n (.fn (cE l)),.cells [.v (.int .u64 (qC v 0:Nat)),.v (.int .u64 (qC v 1:Nat)),.v (.int .u64 (qC v 2:Nat)),.v (.int .u64 (qC v 3:Nat))] 56]⟩ K R)=W (bif decide ((↑n:Int)≤r) then(∀ M:Mem,(n+1)*32≤140737488355328∧n+1≤140737488355328)∧K [.rnd [0,0,0,1] M,.blk 0,.at [1,1]] (St.mk [(0,.o 1),(1,.v (qA r)),(5,.p 2 0)] [.gone,.rowc 56 4 (n+1) (.app n (.fn (cE l)) (.lit 4 [.v (qD 0),.v (qD 0),.v (qD 0),.v (qD 0)])),.cells [.v (qD (↑(qC v 0):Int)),.v (qD (↑(qC v 1):Int)),.v (qD (↑(qC v 2):Int)),.v (qD (↑(qC v 3):Int))] 56]) else(∀ M:Mem,(0:Int)≤r∧r<(↑n:Int))∧(∀ M:Mem,Int.toNat r<n)∧R (.o 0) [.rowc 56 4 n (.upd (.fn (cE l)) (Int.toNat r) 0 [.v (qD (↑(qC v 0):Int)),.v (qD (↑(qC v 1):Int)),.v (qD (↑(qC v 2):Int)),.v (qD (↑(qC v 3):Int))])]):=by kernel_rfl
theorem zTg(l:List Nat)(r:Int)(v n M:Nat)(K:List It→St→Prop)(R:SV→List HO→Prop):W (xwp Try.prog X qWx [] 60 (fxM 1 Try.f40 [] [⟨[0,0,1],[0,1,5],[]⟩]) [] (.at [0,0,0,1]::.rnd [0,0,0,1] M::[.blk 0,.at [1,1]]) ⟨[(0,.o 1),(1,.v (.int .i64 r)),(5,.p 2 0)],[.gone,.rowc 56 4 n (.fn (cE l)),.cells [.v (.int .u64 (qC v 0:Nat)),.v (.int .u64 (qC v 1:Nat)),.v (.int .u64 (qC v 2:Nat)),.v (.int .u64 (qC v 3:Nat))] 56]⟩ K R)=W (bif decide ((↑n:Int)≤r) then(∀ M:Mem,(n+1)*32≤140737488355328∧n+1≤140737488355328)∧K [.rnd [0,0,0,1] M,.blk 0,.at [1,1]] (St.mk [(0,.o 1),(1,.v (qA r)),(5,.p 2 0)] [.gone,.rowc 56 4 (n+1) (.app n (.fn (cE l)) (.lit 4 [.v (qD 0),.v (qD 0),.v (qD 0),.v (qD 0)])),.cells [.v (qD (↑(qC v 0):Int)),.v (qD (↑(qC v 1):Int)),.v (qD (↑(qC v 2):Int)),.v (qD (↑(qC v 3):Int))] 56]) else(∀ M:Mem,(0:Int)≤r∧r<(↑n:Int))∧(∀ M:Mem,Int.toNat r<n)∧R (.o 1) [.gone,.rowc 56 4 n (.upd (.fn (cE l)) (Int.toNat r) 0 [.v (qD (↑(qC v 0):Int)),.v (qD (↑(qC v 1):Int)),.v (qD (↑(qC v 2):Int)),.v (qD (↑(qC v 3):Int))])]):=by kernel_rfl
theorem zLp:Try.f38.body.isSome=true:=by kernel_rfl
theorem zLo(x:SV):Nat.ble [x].length Try.f38.ntmps=true:=by kernel_rfl
theorem zMd(l:List Nat)(hb:l.length*32≤140737488351232)(Q:SV→List HO→Prop)(hq:Q (.o 0) [.rowc 56 4 l.length (.fn (cE l))]):qI Try.prog 38 [.x 0 []] [.ext false (.s false 4 l.length (cE l))] Q:=by
 refine qI.mono (qI.eqv (r0:=.o 0) (h0:=[.rowc 56 4 l.length (.fn (cE l))]) ?_) (fun r h' hh=>by rw[hh.1,hh.2]; exact hq)
 rcases Nat.eq_zero_or_pos l.length with h0 | h0
 ·rw[h0]
  refine qI.emptyX (fun cap=>?_) (fun ad cap=>?_)
  ·refine qI.nilS 56 4 (qJ Try.func38 zLp (zLo _) ?_)
   refine qE hm 60 ((zWw cap _ _).mpr ⟨?_⟩)
   exact .inr ⟨rfl,rfl,rfl,⟨rfl,rfl,rfl,fun k hk=>by omega⟩,trivial⟩
  ·refine qJ Try.func38 zLp (zLo _) ?_
   refine qE hm 60 ((jBk ad cap _ _).mpr ⟨?_⟩)
   exact And.intro (fun _=>by omega) ⟨rfl,⟨rfl,rfl,rfl,fun k hk=>by omega⟩,trivial⟩
 ·refine qJ Try.func38 zLp (zLo _) ?_
  refine qE hm 60 ((zXm l _ _).mpr ⟨?_⟩)
  exact And.intro (fun _=>h0) (And.intro (fun _=>by omega) ⟨rfl,⟨rfl,rfl,Nat.zero_add _,fun k hk j hj=>xL _ _ _ (Nat.zero_le _)⟩,trivial⟩)
noncomputable def zRr:List SV→List HO→Option ((SV→List HO→Prop)→Prop)
 | [.x 0 []],[.ext false (.s false 4 n c)]=>some fun Q=>∃ l:List Nat,n=l.length∧IsC n 4 c (cE l)∧l.length*32≤140737488351232∧Q (.o 0) [.rowc 56 4 l.length (.fn (cE l))]
 | _,_=>none
theorem zJj(args:List SV)(h:List HO)(tr:(SV→List HO→Prop)→Prop)(Q:SV→List HO→Prop)(hc:zRr args h=some tr)(ht:tr Q):qI Try.prog 38 args h Q:=by
 unfold zRr at hc
 split at hc
 ·simp only[sI] at hc
  subst hc
  obtain⟨l,rfl,he,hb,hq⟩:=ht
  exact qI.ac (zMd l hb Q hq) ⟨⟨rfl,rfl,rfl,rfl,he⟩,trivial⟩
 ·cases hc
theorem qOq(r:Int)(v:Nat)(hr:0≤r∧r≤1000000)(Q:SV→List HO→Prop):∀(d:Nat) (l:List Nat),l.length+d=r.toNat+1→l.length≤2000000→(∀ h',HEs h' [.gone,.rowc 56 4 (zO l r.toNat v).length (.fn (cE (zO l r.toNat v)))]→Q (.o 1) h') →
  zZ Try.prog 1 Try.f40 Q (.rnd [0,0,0,1] (d+1)::[.blk 0,.at [1,1]]) ⟨[(0,.o 1),(1,.v (.int .i64 r)),(5,.p 2 0)],[.gone,.rowc 56 4 l.length (.fn (cE l)),.cells [.v (.int .u64 (qC v 0:Nat)),.v (.int .u64 (qC v 1:Nat)),.v (.int .u64 (qC v 2:Nat)),.v (.int .u64 (qC v 3:Nat))] 56]⟩
 | 0,l,hd,hl,hq=>by
  refine FOk.rnd (qR hm 60 ((zTg l r v l.length 0 _ _).mpr ⟨?_⟩))
  rw[qF,if_neg (by omega)]
  refine aI (aI (hq _ ?_))
  have h1:r.toNat<l.length:=by omega
  rw[qZz h1,List.length_set]
  exact⟨HE.refl _,⟨rfl,rfl,rfl,zDj l r.toNat v h1⟩,trivial⟩
 | d+1,l,hd,hl,hq=>by
  refine FOk.rnd (qR hm 60 ((zTg l r v l.length (d+1) _ _).mpr ⟨?_⟩))
  rw[qF,if_pos (by omega)]
  refine And.intro (fun _=>by omega) ?_
  have ih:=qOq r v hr Q d (l++[0]) (by rw[List.length_append,List.length_singleton]; omega) (by rw[List.length_append,List.length_singleton]; omega) (by rw[qPe (by omega)]; exact hq)
  rw[zLa]
  exact FOk.cv ih ⟨HE.refl _,⟨rfl,rfl,by rw[List.length_append]; rfl,qSy 0 rfl⟩,HE.refl _,trivial⟩
theorem zUk:Try.f40.body.isSome=true:=by kernel_rfl
theorem zWc(r:Int)(v:Nat):Nat.ble [SV.o 0,.v (.int .i64 r),.agg [.v (.int .u64 (qC v 0:Nat)),.v (.int .u64 (qC v 1:Nat)),.v (.int .u64 (qC v 2:Nat)),.v (.int .u64 (qC v 3:Nat))]].length Try.f40.ntmps=true:=by kernel_rfl
theorem zMm(l:List Nat)(r:Int)(v:Nat)(hr:0≤r∧r≤1000000)(hl:l.length≤1000000)(Q:SV→List HO→Prop)(hq1:r<(l.length:Int)→Q (.o 0) [.rowc 56 4 (zO l r.toNat v).length (.fn (cE (zO l r.toNat v)))])(hq2:(l.length:Int)≤r→Q (.o 1) [.gone,.rowc 56 4 (zO l r.toNat v).length (.fn (cE (zO l r.toNat v)))]):zL Try.prog 1 40 [.o 0,.v (.int .i64 r),.agg [.v (.int .u64 (qC v 0:Nat)),.v (.int .u64 (qC v 1:Nat)),.v (.int .u64 (qC v 2:Nat)),.v (.int .u64 (qC v 3:Nat))]] [.rowc 56 4 l.length (.fn (cE l))] Q:=by
 by_cases h:r<(l.length:Int)
 ·refine qI.mono (qI.eqv (r0:=.o 0) (h0:=[.rowc 56 4 (zO l r.toNat v).length (.fn (cE (zO l r.toNat v)))]) ?_) (fun r' h' hh=>by rw[hh.1,hh.2]; exact hq1 h)
  refine qJ Try.func40 zUk (zWc r v) ?_
  refine qR hm 60 ((zVx l r v _ _).mpr ⟨?_⟩)
  refine FOk.loop 1 (by kernel_rfl) (FOk.rnd (qR hm 60 ((zTi l r v l.length 0 _ _).mpr ⟨?_⟩)))
  rw[qF,if_neg (by omega)]
  have h1:r.toNat<l.length:=by omega
  rw[qZz h1,List.length_set]
  exact aI (And.intro (fun _=>by omega) ⟨rfl,⟨rfl,rfl,rfl,zDj l r.toNat v h1⟩,trivial⟩)
 ·refine qI.mono (qI.eqv (r0:=.o 1) (h0:=[.gone,.rowc 56 4 (zO l r.toNat v).length (.fn (cE (zO l r.toNat v)))]) ?_) (fun r' h' hh=>by rw[hh.1,hh.2]; exact hq2 (by omega))
  refine qJ Try.func40 zUk (zWc r v) ?_
  refine qR hm 60 ((zVx l r v _ _).mpr ⟨?_⟩)
  refine FOk.loop ((r.toNat+1-(l.length+1))+2) (by kernel_rfl) (FOk.rnd (qR hm 60 ((zTi l r v l.length ((r.toNat+1-(l.length+1))+1) _ _).mpr ⟨?_⟩)))
  rw[qF,if_pos (by omega)]
  refine And.intro (fun _=>by omega) ?_
  have ih:=qOq r v hr (fun r' h'=>r'=.o 1∧HEs h' [.gone,.rowc 56 4 (zO l r.toNat v).length (.fn (cE (zO l r.toNat v)))]) (r.toNat+1-(l.length+1)) (l++[0]) (by rw[List.length_append,List.length_singleton]; omega) (by rw[List.length_append,List.length_singleton]; omega) (by rw[qPe (by omega)]; exact fun h' hh=>⟨rfl,hh⟩)
  rw[zLa]
  exact FOk.cv ih ⟨HE.refl _,⟨rfl,rfl,by rw[List.length_append]; rfl,qSy 0 rfl⟩,HE.refl _,trivial⟩
noncomputable def zQd:List SV→List HO→Option ((SV→List HO→Prop)→Prop)
 | [.o 0,.v (.int .i64 r),.agg [.v (.int .u64 v0),.v (.int .u64 v1),.v (.int .u64 v2),.v (.int .u64 v3)]],[.rowc 56 4 n c]=>some fun Q=>lSe n c.at r [v0,v1,v2,v3] (fun l v=>Q (.o 0) [.rowc 56 4 (zO l r.toNat v).length (.fn (cE (zO l r.toNat v)))]) (fun l v=>Q (.o 1) [.gone,.rowc 56 4 (zO l r.toNat v).length (.fn (cE (zO l r.toNat v)))])
 | _,_=>none
theorem zIa(args:List SV)(h:List HO)(tr:(SV→List HO→Prop)→Prop)(Q:SV→List HO→Prop)(hc:zQd args h=some tr)(ht:tr Q):zL Try.prog h.length 40 args h Q:=by
 unfold zQd at hc
 split at hc
 ·simp only[sI] at hc
  subst hc
  obtain⟨l,v,rfl,he,hds,h0,h1,h2,hq1,hq2⟩:=ht.h
  simp only[List.cons.injEq,and_true] at hds
  obtain⟨rfl,rfl,rfl,rfl⟩:=hds
  exact qI.ac (zMm l _ v ⟨h0,h1⟩ h2 Q hq1 hq2) ⟨⟨rfl,rfl,rfl,he⟩,trivial⟩
 ·cases hc
noncomputable def zVc:Con Try.prog:=(qWx.add 38 zRr zJj).addW 40 zQd zIa
end Go.Proofs.Ytlmjdcbhpffanaa
/- Puts whose rows are taken: plain. -/
namespace Go.Pl
open Go.Sx
def zMr(a b:Int):Int:=IntKind.wrap .u64 ((Int.toNat (a%(18446744073709551616:Int))&&&Int.toNat (b%(18446744073709551616:Int)):Nat):Int)
def orV(a b:Int):Int:=IntKind.wrap .u64 ((Int.toNat (a%(18446744073709551616:Int))|||Int.toNat (b%(18446744073709551616:Int)):Nat):Int)
def tkB(kl:List (List Int))(ml:List Int)(mk:Int)(x:Pt):Bool:=!zMr (zM kl ml [x.1,x.2]) mk==(0:Int)
structure lPs (n : Nat) (c : Nat → Nat → qB) (i : Nat) (k : List (Int × List Pt) → Prop) : Prop where
  h : ∃ rg : List (Int × List Pt), n = rg.length ∧ IsC n 2 c (cRg rg) ∧ i < rg.length ∧ (gRg rg i).2.length ≤ 4000000000000 ∧ k rg
theorem zMv(rg:List (Int×List Pt))(i:Nat)(hi:i<rg.length)(h:(gRg rg i).2.length≤4000000000000){k:List (Int×List Pt)→Prop}(hk:k rg):lPs rg.length (cRg rg) i k:=⟨⟨rg,rfl,IsC.refl _ _ _,hi,h,hk⟩⟩
theorem qUi{q:Pt→Bool}{l:List Pt}{k:Nat}(h:k<l.length):qX q k (l.drop k)=if q (gPt l k) then(k:Int) else qX q (k+1) (l.drop (k+1)):=by
 rw[qCj h,qX]
end Go.Pl
namespace Go.Proofs.Ytlmjdcbhpffanaa
open Go.Sx Go.Pl
set_option linter.unusedVariables false
set_option maxRecDepth 100000
noncomputable def zKy:Con Try.prog:=zVc.setW 67
end Go.Proofs.Ytlmjdcbhpffanaa
/- The first put whose rows are taken. -/
namespace Go.Proofs.Ytlmjdcbhpffanaa
open Go.Sx Go.Pl
set_option linter.unusedVariables false
set_option maxRecDepth 100000
theorem zXs(kl:List (List Int))(ml:List Int)(mk:Int)(rg:List (Int×List Pt))(i:Nat)(K:List It→St→Prop)(R:SV→List HO→Prop):W (xwp Try.prog X zKy [(67,[])] 60 (fxM 4 Try.f91 [] [⟨[0,1,0,1],[8,7,0,1],[]⟩]) [] [.at []] ⟨qQ 0 [.x 0 [(2,i,1)],.fn (.func 67) [] [.p 1 0,.p 2 0]],[.ext false (.s false 2 rg.length (cRg rg)),.cells [.m 3] 91,.cells [.v (.int .u64 mk)] 54,.mp true [.i64,.i64] kl (.ints .u64 ml)]⟩ K R)=W ((∀ M:Mem,i<List.length rg)∧K [.at [0,1,0,1],.blk 0,.at [1,1]] (St.mk [(8,.v (qA 0)),(7,.v (qA (↑(List.length (gRg rg i).2):Int))),(0,.x 0 [(2,i,1)]),(1,SV.fn (Fn.func 67) [] [.p 1 0,.p 2 0])] [.ext false (.s false 2 rg.length (cRg rg)),.cells [.m 3] 91,.cells [.v (qD mk)] 54,.mp true [IntKind.i64,IntKind.i64] kl (Mc.ints IntKind.u64 ml)])):=by kernel_rfl
theorem zUj(kl:List (List Int))(ml:List Int)(mk:Int)(rg:List (Int×List Pt))(i:Nat)(k M:Nat)(K:List It→St→Prop)(R:SV→List HO→Prop):W (xwp Try.prog X zKy [(67,[])] 60 (fxM 4 Try.f91 [] [⟨[0,1,0,1],[8,7,0,1],[]⟩]) [] (.at [0,0,1,0,1]::.rnd [0,0,1,0,1] M::[.blk 0,.at [1,1]]) ⟨[(8,.v (.int .i64 (k:Int))),(7,.v (.int .i64 ((gRg rg i).2.length:Int))),(0,.x 0 [(2,i,1)]),(1,.fn (.func 67) [] [.p 1 0,.p 2 0])],[.ext false (.s false 2 rg.length (cRg rg)),.cells [.m 3] 91,.cells [.v (.int .u64 mk)] 54,.mp true [.i64,.i64] kl (.ints .u64 ml)]⟩ K R)=W (bif decide ((↑k:Int)<(↑(List.length (gRg rg i).2):Int)) then(∀ M:Mem,i<List.length rg)∧(∀ M:Mem,(0:Int)≤(↑k:Int)∧(↑k:Int)<(↑(List.length (gRg rg i).2):Int))∧(∀ M:Mem,i<List.length rg)∧(∀ M:Mem,k<List.length (gRg rg i).2)∧bif !IntKind.wrap IntKind.u64 (↑(Int.toNat (zM kl ml [(gPt (gRg rg i).2 k).1,(gPt (gRg rg i).2 k).2]%(18446744073709551616:Int))&&&Int.toNat (mk%(18446744073709551616:Int))):Int)==(0:Int) then R (.v (qA (↑k:Int))) [.ext false (.s false 2 rg.length (cRg rg)),.cells [.m 3] 91,.cells [.v (qD mk)] 54,.mp true [IntKind.i64,IntKind.i64] kl (Mc.ints IntKind.u64 ml)] else K [.rnd [0,0,1,0,1] M,.blk 0,.at [1,1]] (St.mk [(8,.v (qA (IntKind.wrap .i64 ((↑k:Int)+(1:Int))))),(7,.v (qA (↑(List.length (gRg rg i).2):Int))),(0,.x 0 [(2,i,1)]),(1,SV.fn (Fn.func 67) [] [.p 1 0,.p 2 0])] [.ext false (.s false 2 rg.length (cRg rg)),.cells [.m 3] 91,.cells [.v (qD mk)] 54,.mp true [IntKind.i64,IntKind.i64] kl (Mc.ints IntKind.u64 ml)]) else R (.v (qA (-1))) [.ext false (.s false 2 rg.length (cRg rg)),.cells [.m 3] 91,.cells [.v (qD mk)] 54,.mp true [IntKind.i64,IntKind.i64] kl (Mc.ints IntKind.u64 ml)]):=by kernel_rfl
theorem qWu(kl:List (List Int))(ml:List Int)(mk:Int)(rg:List (Int×List Pt))(i:Nat)(hi:i<rg.length)(hb:(gRg rg i).2.length≤4000000000000)(Q:SV→List HO→Prop):∀(d k:Nat),k+d=(gRg rg i).2.length→Q (.v (.int .i64 (qX (tkB kl ml mk) k ((gRg rg i).2.drop k)))) [.ext false (.s false 2 rg.length (cRg rg)),.cells [.m 3] 91,.cells [.v (.int .u64 mk)] 54,.mp true [.i64,.i64] kl (.ints .u64 ml)] →
  zZ Try.prog 4 Try.f91 Q (.rnd [0,0,1,0,1] (d+1)::[.blk 0,.at [1,1]]) ⟨[(8,.v (.int .i64 (k:Int))),(7,.v (.int .i64 ((gRg rg i).2.length:Int))),(0,.x 0 [(2,i,1)]),(1,.fn (.func 67) [] [.p 1 0,.p 2 0])],[.ext false (.s false 2 rg.length (cRg rg)),.cells [.m 3] 91,.cells [.v (.int .u64 mk)] 54,.mp true [.i64,.i64] kl (.ints .u64 ml)]⟩
 | 0,k,hd,hq=>by
  refine FOk.rnd (qR hm 60 ((zUj kl ml mk rg i k 0 _ _).mpr ⟨?_⟩))
  rw[qF,if_neg (by omega)]
  rw[show k=(gRg rg i).2.length by omega,List.drop_length] at hq
  exact hq
 | d+1,k,hd,hq=>by
  have hk:k<(gRg rg i).2.length:=by omega
  rw[qUi hk] at hq
  refine FOk.rnd (qR hm 60 ((zUj kl ml mk rg i k (d+1) _ _).mpr ⟨?_⟩))
  rw[qF,if_pos (by omega),qN _ (by omega)]
  repeat' (refine And.intro (fun _=>by omega) ?_)
  refine qK (fun h=>?_) (fun h=>?_)
  ·rw[show tkB kl ml mk (gPt (gRg rg i).2 k)=true from h] at hq; exact hq
  ·rw[show tkB kl ml mk (gPt (gRg rg i).2 k)=false from h] at hq; exact qWu kl ml mk rg i hi hb Q d (k+1) (by omega) hq
theorem jAm:Try.f91.body.isSome=true:=by kernel_rfl
theorem zYr:Nat.ble [SV.x 0 [],.fn (.func 67) [] [.p 1 0,.p 2 0]].length Try.f91.ntmps=true:=by kernel_rfl
theorem zNu(kl:List (List Int))(ml:List Int)(mk:Int)(rg:List (Int×List Pt))(i:Nat)(hi:i<rg.length)(hb:(gRg rg i).2.length≤4000000000000)(Q:SV→List HO→Prop)(hq:Q (.v (.int .i64 (qX (tkB kl ml mk) 0 (gRg rg i).2))) [.ext false (.s false 2 rg.length (cRg rg)),.cells [.m 3] 91,.cells [.v (.int .u64 mk)] 54,.mp true [.i64,.i64] kl (.ints .u64 ml)]):zL Try.prog 4 91 [.x 0 [(2,i,1)],.fn (.func 67) [] [.p 1 0,.p 2 0]] [.ext false (.s false 2 rg.length (cRg rg)),.cells [.m 3] 91,.cells [.v (.int .u64 mk)] 54,.mp true [.i64,.i64] kl (.ints .u64 ml)] Q:=by
 refine qJ Try.func91 jAm ?_ ?_
 ·exact zYr
 refine qR hm 60 ((zXs kl ml mk rg i _ _).mpr ⟨?_⟩)
 repeat' (refine And.intro (fun _=>by omega) ?_)
 exact FOk.loop ((gRg rg i).2.length+1) (by kernel_rfl) (qWu kl ml mk rg i hi hb Q (gRg rg i).2.length 0 (by omega) hq)
noncomputable def zPn:List SV→List HO→Option ((SV→List HO→Prop)→Prop)
 | [.x 0 [(2,i,1)],.fn (.func 67) [] [.p 1 0,.p 2 0]],[.ext false (.s false 2 n c),.cells [.m 3] 91,.cells [.v (.int .u64 mk)] 54,.mp true [.i64,.i64] kl (.ints .u64 ml)]=>some fun Q=>lPs n c i fun rg=>Q (.v (.int .i64 (qX (tkB kl ml mk) 0 (gRg rg i).2))) [.ext false (.s false 2 rg.length (cRg rg)),.cells [.m 3] 91,.cells [.v (.int .u64 mk)] 54,.mp true [.i64,.i64] kl (.ints .u64 ml)]
 | _,_=>none
theorem zJg(args:List SV)(h:List HO)(tr:(SV→List HO→Prop)→Prop)(Q:SV→List HO→Prop)(hc:zPn args h=some tr)(ht:tr Q):zL Try.prog h.length 91 args h Q:=by
 unfold zPn at hc
 split at hc
 ·simp only[sI] at hc
  subst hc
  obtain⟨rg,rfl,he,hi,hb,hq⟩:=ht.h
  exact qI.ac (zNu _ _ _ rg _ hi hb Q hq) ⟨⟨rfl,rfl,rfl,rfl,he⟩,HE.refl _,HE.refl _,HE.refl _,trivial⟩
 ·cases hc
noncomputable def zVw:Con Try.prog:=zVc.addW 91 zPn zJg
noncomputable def zEy:Con Try.prog:=(zVw.setW 66).setW 65
end Go.Proofs.Ytlmjdcbhpffanaa
/- Where a region may stand: plain. -/
namespace Go.Pl
open Go.Sx
def xB(rows s:Int):Int:=(IntKind.wrap IntKind.u64 (IntKind.wrap IntKind.u64 (IntKind.wrap IntKind.u64 ((1:Int)*(2:Int)^if Int.toNat rows≤64 then Int.toNat rows else 64)-(1:Int))*(2:Int)^if Int.toNat s≤64 then Int.toNat s else 64))
def xO(mk:Int):List (List Int)→List Int→List Pt→List (List Int)×List Int
 | kl,ml,x::t=>xO mk (zK kl [x.1,x.2]) (zA kl ml [x.1,x.2] (orV (zM kl ml [x.1,x.2]) mk)) t
 | kl,ml,[]=>(kl,ml)
def qJp(kl:List (List Int))(ml:List Int)(rows u:Int)(ps:List Pt):Nat→Int→Option Int
 | 0,_=>none
 | d+1,s=>if ps.any (tkB kl ml (xB rows s)) then qJp kl ml rows u ps d (s+1) else some s
def qDw(kl:List (List Int))(ml:List Int)(rows u:Int)(ps:List Pt):Option Int:=if rows≤u then qJp kl ml rows u ps (u-rows+1).toNat 0 else none
structure lPc (kl : List (List Int)) (ml : List Int) (rows u : Int) (n : Nat) (c : Nat → Nat → qB) (i : Nat) (k0 : List (Int × List Pt) → Prop) (k1 : List (Int × List Pt) → Int → Prop) : Prop where
  h : ∃ rg : List (Int × List Pt), n = rg.length ∧ IsC n 2 c (cRg rg) ∧ i < rg.length ∧ (gRg rg i).2.length ≤ 4000000000000 ∧ ml.length = kl.length ∧ 0 ≤ rows ∧ u ≤ 1000000 ∧ (qDw kl ml rows u (gRg rg i).2 = none → k0 rg) ∧ ∀ s, qDw kl ml rows u (gRg rg i).2 = some s → k1 rg s
theorem qQu:∀(kl:List (List Int)) (l:List Int) (x:List Int) (a v:Int),l.length=kl.length→(zA kl l x a).set (wC kl x) v=zA kl l x v
 | [],[],_,_,_,_=>rfl
 | [],b::t,x,a,v,h=>by simp at h
 | k::r,[],x,a,v,h=>by simp at h
 | k::r,b::t,x,a,v,h=>by
  by_cases hx:x=k
  ·simp [zA,wC,hx]
  ·simp [zA,wC,hx,qQu r t x a v (by simpa using h)]
theorem zAm:∀(kl:List (List Int)) (x:List Int),wC kl x<(zK kl x).length
 | [],x=>by simp [wC,zK]
 | k::r,x=>by
  by_cases hx:x=k
  ·simp [wC,zK,hx]
  ·have:=zAm r x
   simp [wC,zK,hx]; omega
theorem qFf:∀(kl:List (List Int)) (l:List Int) (x:List Int) (a:Int),l.length=kl.length→zM (zK kl x) (zA kl l x a) x=a
 | [],[],x,a,_=>by simp [zK,zA,zM]
 | [],b::t,x,a,h=>by simp at h
 | k::r,[],x,a,h=>by simp at h
 | k::r,b::t,x,a,h=>by
  by_cases hx:x=k
  ·simp [zK,zA,zM,hx]
  ·simp [zK,zA,zM,hx,qFf r t x a (by simpa using h)]
theorem qTu(mk:Int):∀(ps:List Pt) (kl:List (List Int)) (ml:List Int),ml.length=kl.length→(xO mk kl ml ps).2.length=(xO mk kl ml ps).1.length
 | [],_,_,h=>h
 | _::t,kl,ml,h=>qTu mk t _ _ (xU kl ml _ _ h)
end Go.Pl
namespace Go.Proofs.Ytlmjdcbhpffanaa
open Go.Sx Go.Pl
set_option linter.unusedVariables false
set_option maxRecDepth 100000
end Go.Proofs.Ytlmjdcbhpffanaa
/- Where a region stands. -/
namespace Go.Proofs.Ytlmjdcbhpffanaa
open Go.Sx Go.Pl
set_option linter.unusedVariables false
set_option maxRecDepth 100000
theorem jAt(kl:List (List Int))(ml:List Int)(rows u:Int)(rg:List (Int×List Pt))(i:Nat)(K:List It→St→Prop)(R:SV→List HO→Prop):W (xwp Try.prog X zEy [(65,[]),(66,[])] 60 (fxM 2 Try.f39 [] [⟨[0,1,0,1],[8,4,3,2],[]⟩,⟨[0,1,0,1,1,0,0,1,0,0,1,0,1],[38,37,36,9,8,3],[]⟩]) [] [.at []] ⟨qQ 0 [.m 0,.agg [.v (.int .i64 rows),.x 1 [(2,i,1)]],.v (.int .i64 u)],[.mp true [.i64,.i64] kl (.ints .u64 ml),.ext false (.s false 2 rg.length (cRg rg))]⟩ K R)=W (K [.at [0,1,0,1],.blk 0,.at [1,1]] (St.mk [(8,.v (qA 0)),(4,.p 2 0),(3,.p 3 0),(2,.v (qA u))] [.mp true [IntKind.i64,IntKind.i64] kl (Mc.ints IntKind.u64 ml),.ext false (.s false 2 rg.length (cRg rg)),.cells [.v (qA rows),.x 1 [(2,i,1)]] 43,.cells [.m 0] 91])):=by kernel_rfl
theorem zLk(kl:List (List Int))(ml:List Int)(rows u:Int)(rg:List (Int×List Pt))(i:Nat)(s:Int)(M:Nat)(K:List It→St→Prop)(R:SV→List HO→Prop):W (xwp Try.prog X zEy [(65,[]),(66,[])] 60 (fxM 2 Try.f39 [] [⟨[0,1,0,1],[8,4,3,2],[]⟩,⟨[0,1,0,1,1,0,0,1,0,0,1,0,1],[38,37,36,9,8,3],[]⟩]) [] (.at [0,0,1,0,1]::.rnd [0,0,1,0,1] M::[.blk 0,.at [1,1]]) (St.mk [(8,.v (qA (s:Int))),(4,.p 2 0),(3,.p 3 0),(2,.v (qA u))] [.mp true [IntKind.i64,IntKind.i64] kl (Mc.ints IntKind.u64 ml),.ext false (.s false 2 rg.length (cRg rg)),.cells [.v (qA rows),.x 1 [(2,i,1)]] 43,.cells [.m 0] 91]) K R)=W (bif decide (rows≤u) then bif decide (s≤IntKind.wrap .i64 (u-rows)) then(∀ M:Mem,¬rows<(0:Int))∧(∀ M:Mem,¬s<(0:Int))∧(∀ M:Mem,0+1≤1)∧lPs rg.length (cRg rg) i fun(rg:List (Int×List Pt))=>bif decide ((0:Int)≤qX (tkB kl ml (IntKind.wrap IntKind.u64 (IntKind.wrap IntKind.u64 (IntKind.wrap IntKind.u64 ((1:Int)*(2:Int)^if Int.toNat rows≤64 then Int.toNat rows else 64)-(1:Int))*(2:Int)^if Int.toNat s≤64 then Int.toNat s else 64))) 0 (gRg rg i).2) then K [.rnd [0,0,1,0,1] M,.blk 0,.at [1,1]] (St.mk [(8,.v (qA (IntKind.wrap .i64 (s+(1:Int))))),(4,.p 2 0),(3,.p 3 0),(2,.v (qA u))] [.mp true [IntKind.i64,IntKind.i64] kl (Mc.ints IntKind.u64 ml),.ext false (.s false 2 rg.length (cRg rg)),.cells [.v (qA rows),.x 1 [(2,i,1)]] 43,.cells [.m 0] 91]) else(∀ M:Mem,i<List.length rg)∧K [.at [0,1,0,1,1,0,0,1,0,0,1,0,1],.blk 2,.at [1,1,1,0,0,1,0,0,1,0,1],.blk 1,.at [1,1,0,0,1,0,1],.rnd [0,0,1,0,1] M,.blk 0,.at [1,1]] (St.mk [(38,.v (qA 0)),(37,.v (qA (↑(List.length (gRg rg i).2):Int))),(36,.x 1 [(2,i,1)]),(9,.p 2 0),(8,.v (qA s)),(3,.p 3 0)] [.mp true [IntKind.i64,IntKind.i64] kl (Mc.ints IntKind.u64 ml),.ext false (.s false 2 rg.length (cRg rg)),.cells [.v (qD (IntKind.wrap IntKind.u64 (IntKind.wrap IntKind.u64 (IntKind.wrap IntKind.u64 ((1:Int)*(2:Int)^if Int.toNat rows≤64 then Int.toNat rows else 64)-(1:Int))*(2:Int)^if Int.toNat s≤64 then Int.toNat s else 64)))] 54,.cells [.m 0] 91]) else R (.tup [.v (qA 0),.v (.bool false)]) [.mp true [IntKind.i64,IntKind.i64] kl (Mc.ints IntKind.u64 ml),.ext false (.s false 2 rg.length (cRg rg))] else R (.tup [.v (qA 0),.v (.bool false)]) [.mp true [IntKind.i64,IntKind.i64] kl (Mc.ints IntKind.u64 ml),.ext false (.s false 2 rg.length (cRg rg))]):=by kernel_rfl
theorem zUr(kl:List (List Int))(ml:List Int)(mk s:Int)(rg:List (Int×List Pt))(i k M2 M:Nat)(K:List It→St→Prop)(R:SV→List HO→Prop):W (xwp Try.prog X zEy [(65,[]),(66,[])] 60 (fxM 2 Try.f39 [] [⟨[0,1,0,1],[8,4,3,2],[]⟩,⟨[0,1,0,1,1,0,0,1,0,0,1,0,1],[38,37,36,9,8,3],[]⟩]) [] (.at [0,0,1,0,1,1,0,0,1,0,0,1,0,1]::.rnd [0,0,1,0,1,1,0,0,1,0,0,1,0,1] M::[.blk 2,.at [1,1,1,0,0,1,0,0,1,0,1],.blk 1,.at [1,1,0,0,1,0,1],.rnd [0,0,1,0,1] M2,.blk 0,.at [1,1]]) ⟨[(38,.v (.int .i64 (k:Int))),(37,.v (.int .i64 ((gRg rg i).2.length:Int))),(36,.x 1 [(2,i,1)]),(9,.p 2 0),(8,.v (.int .i64 s)),(3,.p 3 0)],[.mp true [.i64,.i64] kl (.ints .u64 ml),.ext false (.s false 2 rg.length (cRg rg)),.cells [.v (.int .u64 mk)] 54,.cells [.m 0] 91]⟩ K R)=W (bif decide ((↑k:Int)<(↑(List.length (gRg rg i).2):Int)) then((∀ M:Mem,i<List.length rg)∧(∀ M:Mem,(0:Int)≤(↑k:Int)∧(↑k:Int)<(↑(List.length (gRg rg i).2):Int))∧(∀ M:Mem,i<List.length rg)∧(∀ M:Mem,k<List.length (gRg rg i).2)∧(∀ M:Mem,0+7≤7)∧(∀ M:Mem,(0:Int)≤(↑(wC kl [(gPt (gRg rg i).2 k).1,(gPt (gRg rg i).2 k).2]):Int)∧(↑(wC kl [(gPt (gRg rg i).2 k).1,(gPt (gRg rg i).2 k).2]):Int)<(↑(List.length (zK kl [(gPt (gRg rg i).2 k).1,(gPt (gRg rg i).2 k).2])):Int))∧K [.rnd [0,0,1,0,1,1,0,0,1,0,0,1,0,1] M,.blk 2,.at [1,1,1,0,0,1,0,0,1,0,1],.blk 1,.at [1,1,0,0,1,0,1],.rnd [0,0,1,0,1] M2,.blk 0,.at [1,1]] (St.mk [(38,.v (qA (IntKind.wrap .i64 ((↑k:Int)+(1:Int))))),(37,.v (qA (↑(List.length (gRg rg i).2):Int))),(36,.x 1 [(2,i,1)]),(9,.p 2 0),(8,.v (qA s)),(3,.p 3 0)] [.mp true [IntKind.i64,IntKind.i64] (zK kl [(gPt (gRg rg i).2 k).1,(gPt (gRg rg i).2 k).2]) (Mc.ints IntKind.u64 (List.set (zA kl ml [(gPt (gRg rg i).2 k).1,(gPt (gRg rg i).2 k).2] (zM kl ml [(gPt (gRg rg i).2 k).1,(gPt (gRg rg i).2 k).2])) (wC kl [(gPt (gRg rg i).2 k).1,(gPt (gRg rg i).2 k).2]) (IntKind.wrap IntKind.u64 (↑(Int.toNat (zM kl ml [(gPt (gRg rg i).2 k).1,(gPt (gRg rg i).2 k).2]%(18446744073709551616:Int))|||Int.toNat (mk%(18446744073709551616:Int))):Int)))),.ext false (.s false 2 rg.length (cRg rg)),.cells [.v (qD mk)] 54,.cells [.m 0] 91]))∧(∀ M:Mem,i<List.length rg)∧(∀ M:Mem,(0:Int)≤(↑k:Int)∧(↑k:Int)<(↑(List.length (gRg rg i).2):Int))∧(∀ M:Mem,i<List.length rg)∧(∀ M:Mem,k<List.length (gRg rg i).2)∧(∀ M:Mem,0+7≤7)∧(∀ M:Mem,(0:Int)≤(↑(wC kl [(gPt (gRg rg i).2 k).1,(gPt (gRg rg i).2 k).2]):Int)∧(↑(wC kl [(gPt (gRg rg i).2 k).1,(gPt (gRg rg i).2 k).2]):Int)<(↑(List.length (zK kl [(gPt (gRg rg i).2 k).1,(gPt (gRg rg i).2 k).2])):Int))∧K [.rnd [0,0,1,0,1,1,0,0,1,0,0,1,0,1] M,.blk 2,.at [1,1,1,0,0,1,0,0,1,0,1],.blk 1,.at [1,1,0,0,1,0,1],.rnd [0,0,1,0,1] M2,.blk 0,.at [1,1]] (St.mk [(38,.v (qA (IntKind.wrap .i64 ((↑k:Int)+(1:Int))))),(37,.v (qA (↑(List.length (gRg rg i).2):Int))),(36,.x 1 [(2,i,1)]),(9,.p 2 0),(8,.v (qA s)),(3,.p 3 0)] [.mp true [IntKind.i64,IntKind.i64] (zK kl [(gPt (gRg rg i).2 k).1,(gPt (gRg rg i).2 k).2]) (Mc.ints IntKind.u64 (List.set (zA kl ml [(gPt (gRg rg i).2 k).1,(gPt (gRg rg i).2 k).2] (zM kl ml [(gPt (gRg rg i).2 k).1,(gPt (gRg rg i).2 k).2])) (wC kl [(gPt (gRg rg i).2 k).1,(gPt (gRg rg i).2 k).2]) (IntKind.wrap IntKind.u64 (↑(Int.toNat (zM (zK kl [(gPt (gRg rg i).2 k).1,(gPt (gRg rg i).2 k).2]) (zA kl ml [(gPt (gRg rg i).2 k).1,(gPt (gRg rg i).2 k).2] (zM kl ml [(gPt (gRg rg i).2 k).1,(gPt (gRg rg i).2 k).2])) [(gPt (gRg rg i).2 k).1,(gPt (gRg rg i).2 k).2]%(18446744073709551616:Int))|||Int.toNat (mk%(18446744073709551616:Int))):Int)))),.ext false (.s false 2 rg.length (cRg rg)),.cells [.v (qD mk)] 54,.cells [.m 0] 91]) else R (.tup [.v (qA s),.v (.bool true)]) [.mp true [IntKind.i64,IntKind.i64] kl (Mc.ints IntKind.u64 ml),.ext false (.s false 2 rg.length (cRg rg))]):=by kernel_rfl
theorem qPc(mk s:Int)(rg:List (Int×List Pt))(i:Nat)(hi0:i<rg.length)(hb:(gRg rg i).2.length≤4000000000000)(M2:Nat)(Q:SV→List HO→Prop):∀(d k:Nat) (kl:List (List Int)) (ml:List Int),k+d=(gRg rg i).2.length→ml.length=kl.length→Q (.tup [.v (.int .i64 s),.v (.bool true)]) [.mp true [.i64,.i64] (xO mk kl ml ((gRg rg i).2.drop k)).1 (.ints .u64 (xO mk kl ml ((gRg rg i).2.drop k)).2),.ext false (.s false 2 rg.length (cRg rg))] →
  zZ Try.prog 2 Try.f39 Q (.rnd [0,0,1,0,1,1,0,0,1,0,0,1,0,1] (d+1)::[.blk 2,.at [1,1,1,0,0,1,0,0,1,0,1],.blk 1,.at [1,1,0,0,1,0,1],.rnd [0,0,1,0,1] M2,.blk 0,.at [1,1]]) ⟨[(38,.v (.int .i64 (k:Int))),(37,.v (.int .i64 ((gRg rg i).2.length:Int))),(36,.x 1 [(2,i,1)]),(9,.p 2 0),(8,.v (.int .i64 s)),(3,.p 3 0)],[.mp true [.i64,.i64] kl (.ints .u64 ml),.ext false (.s false 2 rg.length (cRg rg)),.cells [.v (.int .u64 mk)] 54,.cells [.m 0] 91]⟩
 | 0,k,kl,ml,hd,hl,hq=>by
  refine FOk.rnd (qR hm 60 ((zUr kl ml mk s rg i k M2 0 _ _).mpr ⟨?_⟩))
  rw[qF,if_neg (by omega)]
  rw[show k=(gRg rg i).2.length by omega,List.drop_length] at hq
  exact hq
 | d+1,k,kl,ml,hd,hl,hq=>by
  have hk:k<(gRg rg i).2.length:=by omega
  rw[qCj hk] at hq
  have hi:=zAm kl [(gPt (gRg rg i).2 k).1,(gPt (gRg rg i).2 k).2]
  have ih:=qPc mk s rg i hi0 hb M2 Q d (k+1) (zK kl [(gPt (gRg rg i).2 k).1,(gPt (gRg rg i).2 k).2]) (zA kl ml [(gPt (gRg rg i).2 k).1,(gPt (gRg rg i).2 k).2] (orV (zM kl ml [(gPt (gRg rg i).2 k).1,(gPt (gRg rg i).2 k).2]) mk)) (by omega) (xU kl ml _ _ hl) hq
  refine FOk.rnd (qR hm 60 ((zUr kl ml mk s rg i k M2 (d+1) _ _).mpr ⟨?_⟩))
  rw[qF,if_pos (by omega),qN _ (by omega),qFf kl ml _ _ hl,qQu kl ml _ _ _ hl]
  repeat' (first | refine And.intro (fun _=>by omega) ?_ | refine And.intro ?_ ?_)
  all_goals exact ih
theorem qPz(kl:List (List Int))(ml:List Int)(hl:ml.length=kl.length)(rows u:Int)(rg:List (Int×List Pt))(i:Nat)(hi0:i<rg.length)(hb:(gRg rg i).2.length≤4000000000000)(h0:0≤rows)(hru:rows≤u)(hu:u≤1000000)(Q:SV→List HO→Prop):∀(d:Nat) (s:Int),0≤s→s+d=u-rows+1→(qJp kl ml rows u (gRg rg i).2 d s=none→Q (.tup [.v (.int .i64 0),.v (.bool false)]) [.mp true [.i64,.i64] kl (.ints .u64 ml),.ext false (.s false 2 rg.length (cRg rg))])→(∀ s',qJp kl ml rows u (gRg rg i).2 d s=some s'→Q (.tup [.v (.int .i64 s'),.v (.bool true)]) [.mp true [.i64,.i64] (xO (xB rows s') kl ml (gRg rg i).2).1 (.ints .u64 (xO (xB rows s') kl ml (gRg rg i).2).2),.ext false (.s false 2 rg.length (cRg rg))]) →
  zZ Try.prog 2 Try.f39 Q (.rnd [0,0,1,0,1] (d+1)::[.blk 0,.at [1,1]]) ((St.mk [(8,SV.v (qA s)),(4,SV.p 2 0),(3,SV.p 3 0),(2,SV.v (qA u))] [HO.mp true [IntKind.i64,IntKind.i64] kl (Mc.ints IntKind.u64 ml),HO.ext false (qB.s false 2 rg.length (cRg rg)),HO.cells [SV.v (qA rows),SV.x 1 [(2,i,1)]] 43,HO.cells [SV.m 0] 91]))
 | 0,s,hs,hd,hq0,hq1=>by
  refine FOk.rnd (qR hm 60 ((zLk kl ml rows u rg i s 0 _ _).mpr ⟨?_⟩))
  rw[qF,if_pos hru,qF,jA (u-rows) (by omega),if_neg (by omega)]
  exact hq0 rfl
 | d+1,s,hs,hd,hq0,hq1=>by
  refine FOk.rnd (qR hm 60 ((zLk kl ml rows u rg i s (d+1) _ _).mpr ⟨?_⟩))
  rw[qF,if_pos hru,qF,jA (u-rows) (by omega),if_pos (by omega),jA (s+1) (by omega)]
  refine aI (aI (aI (zMv rg i hi0 hb ?_)))
  show bif decide ((0:Int)≤qX (tkB kl ml (xB rows s)) 0 (gRg rg i).2) then _ else _
  rw[zU]
  refine qK (fun h=>?_) (fun h=>?_)
  ·exact qPz kl ml hl rows u rg i hi0 hb h0 hru hu Q d (s+1) (by omega) (by omega) (fun e=>hq0 (by rw[qJp,if_pos h]; exact e)) (fun s' e=>hq1 s' (by rw[qJp,if_pos h]; exact e))
  ·have e:=hq1 s (by rw[qJp,if_neg (by rw[h]; exact Bool.false_ne_true)])
   refine And.intro (fun _=>hi0) ?_
   exact FOk.loop ((gRg rg i).2.length+1) (by kernel_rfl) (qPc (xB rows s) s rg i hi0 hb (d+1) Q (gRg rg i).2.length 0 kl ml (by omega) hl e)
theorem zXo:Try.f39.body.isSome=true:=by kernel_rfl
theorem zXg(rows u:Int)(i:Nat):Nat.ble ([.m 0,.agg [.v (.int .i64 rows),.x 1 [(2,i,1)]],.v (.int .i64 u)]:List SV).length Try.f39.ntmps=true:=by kernel_rfl
theorem zGc(kl:List (List Int))(ml:List Int)(hl:ml.length=kl.length)(rows u:Int)(rg:List (Int×List Pt))(i:Nat)(hi0:i<rg.length)(hb:(gRg rg i).2.length≤4000000000000)(h0:0≤rows)(hu:u≤1000000)(Q:SV→List HO→Prop)(hq0:qDw kl ml rows u (gRg rg i).2=none→Q (.tup [.v (.int .i64 0),.v (.bool false)]) [.mp true [.i64,.i64] kl (.ints .u64 ml),.ext false (.s false 2 rg.length (cRg rg))])(hq1:∀ s,qDw kl ml rows u (gRg rg i).2=some s→Q (.tup [.v (.int .i64 s),.v (.bool true)]) [.mp true [.i64,.i64] (xO (xB rows s) kl ml (gRg rg i).2).1 (.ints .u64 (xO (xB rows s) kl ml (gRg rg i).2).2),.ext false (.s false 2 rg.length (cRg rg))]):zL Try.prog 2 39 [.m 0,.agg [.v (.int .i64 rows),.x 1 [(2,i,1)]],.v (.int .i64 u)] [.mp true [.i64,.i64] kl (.ints .u64 ml),.ext false (.s false 2 rg.length (cRg rg))] Q:=by
 refine qJ Try.func39 zXo ?_ ?_
 ·exact zXg rows u i
 refine qR hm 60 ((jAt kl ml rows u rg i _ _).mpr ⟨?_⟩)
 by_cases hru:rows≤u
 ·rw[qDw,if_pos hru] at hq0
  have hq1':∀ s,qJp kl ml rows u (gRg rg i).2 (u-rows+1).toNat 0=some s→Q (.tup [.v (.int .i64 s),.v (.bool true)]) [.mp true [.i64,.i64] (xO (xB rows s) kl ml (gRg rg i).2).1 (.ints .u64 (xO (xB rows s) kl ml (gRg rg i).2).2),.ext false (.s false 2 rg.length (cRg rg))]:=fun s e=>hq1 s (by rw[qDw,if_pos hru]; exact e)
  exact FOk.loop ((u-rows+1).toNat+1) (by kernel_rfl) (qPz kl ml hl rows u rg i hi0 hb h0 hru hu Q (u-rows+1).toNat 0 (by omega) (by omega) hq0 hq1')
 ·rw[qDw,if_neg hru] at hq0
  refine FOk.loop 1 (by kernel_rfl) (FOk.rnd (qR hm 60 ((zLk kl ml rows u rg i 0 0 _ _).mpr ⟨?_⟩)))
  rw[qF,if_neg hru]
  exact hq0 rfl
noncomputable def zNy:List SV→List HO→Option ((SV→List HO→Prop)→Prop)
 | [.m 0,.agg [.v (.int .i64 rows),.x 1 [(2,i,1)]],.v (.int .i64 u)],[.mp true [.i64,.i64] kl (.ints .u64 ml),.ext false (.s false 2 n c)]=>some fun Q=>lPc kl ml rows u n c i (fun rg=>Q (.tup [.v (.int .i64 0),.v (.bool false)]) [.mp true [.i64,.i64] kl (.ints .u64 ml),.ext false (.s false 2 rg.length (cRg rg))]) (fun rg s=>Q (.tup [.v (.int .i64 s),.v (.bool true)]) [.mp true [.i64,.i64] (xO (xB rows s) kl ml (gRg rg i).2).1 (.ints .u64 (xO (xB rows s) kl ml (gRg rg i).2).2),.ext false (.s false 2 rg.length (cRg rg))])
 | _,_=>none
theorem zIw(args:List SV)(h:List HO)(tr:(SV→List HO→Prop)→Prop)(Q:SV→List HO→Prop)(hc:zNy args h=some tr)(ht:tr Q):zL Try.prog h.length 39 args h Q:=by
 unfold zNy at hc
 split at hc
 ·simp only[sI] at hc
  subst hc
  obtain⟨rg,rfl,he,hi,hb,hl,h0,hu,hq0,hq1⟩:=ht.h
  exact qI.ac (zGc _ _ hl _ _ rg _ hi hb h0 hu Q hq0 hq1) ⟨HE.refl _,⟨rfl,rfl,rfl,rfl,he⟩,trivial⟩
 ·cases hc
noncomputable def zRp:Con Try.prog:=zVw.addW 39 zNy zIw
end Go.Proofs.Ytlmjdcbhpffanaa
/- A nil slice in a variable, told as an empty own row. -/
namespace Go.Sx
open Go.RowKit
theorem qPj(e:Env)(v:Value):∀(l:List SV) (j:Nat) (s:SV),l[j]?=some (.v v)→den e s=v→qL e (l.set j s)=qL e l
 | [],j,s,h,_=>by cases h
 | x::r,0,s,h,hs=>by
  simp only[List.getElem?_cons_zero,sI] at h
  subst h
  simp only[List.set,qL,den,hs]
 | x::r,j+1,s,h,hs=>by
  simp only[List.getElem?_cons_succ] at h
  simp only[List.set,qL,qPj e v r j s h hs]
theorem FOk.nilC{P:Program}{m:Nat}{fn:Func}{Q:SV→List HO→Prop}{its:List It}{tm:List (Nat×SV)}{h:List HO}(i j:Nat)(T1:TypeId)(sz:Nat){T0:TypeId}{cs:List SV}(hi:h[i]?=some (.cells cs T0))(hj:cs[j]?=some (.v (.slice none 0 0)))(hx:zZ P m fn Q its ⟨tm,(h++[HO.rowc T1 sz 0 (.lit 1 [])]).set i (.cells (cs.set j (.o h.length)) T0)⟩):zZ P m fn Q its ⟨tm,h⟩:=by
 intro F hF w0 hw0 e a w S T0'
 have hlt:=(List.getElem?_eq_some_iff.1 hi).1
 have S2:=S.newRowc hF (w':=w) T1 sz 0 (.lit 1 []) (.slice none 0 0) (fun _=>⟨[],World.ownsRow_nil w 0 T1 sz,fun u hu=>(by cases hu),fun k hk=>by omega⟩) (fun b hb=>by cases hb) ⟨rfl,rfl,rfl,Nat.le_refl _,fun _ _ _=>rfl⟩
 have hag:=zQ e h.length (.slice none 0 0)
 have hrow:(e.setR h.length (.slice none 0 0)).row h.length=.slice none 0 0:=by simp [Env.setR]
 have hl:(h++[HO.rowc T1 sz 0 (.lit 1 [])]).length=h.length+1:=by simp
 have S3:=S2.conv hF (h':=(h++[HO.rowc T1 sz 0 (.lit 1 [])]).set i (.cells (cs.set j (.o h.length)) T0)) (by simp) (fun k x' hx'=>by
  by_cases hki:k=i
  ·subst hki
   have hlt2:k<(h++[HO.rowc T1 sz 0 (.lit 1 [])]).length:=by rw[hl]; omega
   rw[List.getElem?_set_self hlt2] at hx'
   simp only[sI] at hx'
   subst hx'
   refine⟨HO.cells cs T0,by rw[List.getElem?_append_left hlt]; exact hi,rfl,?_,?_⟩
   ·intro hs
    simp only[HO.sat] at hs ⊢
    rw[qPj _ (.slice none 0 0) cs j (.o h.length) hj (by simp only[den,hrow])]
    exact hs
   ·intro hs
    have hs':wsL (h++[HO.rowc T1 sz 0 (.lit 1 [])]).length cs:=hs
    show wsL (h++[HO.rowc T1 sz 0 (.lit 1 [])]).length (cs.set j (.o h.length))
    rw[yQ] at hs' ⊢
    intro y hy
    rcases List.mem_or_eq_of_mem_set hy with hy | rfl
    ·exact hs' y hy
    ·show h.length<_
     rw[hl]; omega
  ·exact⟨x',qAd hki hx',rfl,fun hs=>hs,fun hs=>hs⟩)
 refine hx F hF w0 hw0 _ a w S3 ⟨T0'.size,T0'.defers,fun t s hs=>?_,fun t s hs=>?_⟩
 ·rw[T0'.get t s hs,jK hag s (T0'.wsc t s hs)]
 ·show ws ((h++[HO.rowc T1 sz 0 (.lit 1 [])]).set i (HO.cells (cs.set j (.o h.length)) T0)).length s
  rw[List.length_set,hl]
  exact yR (Nat.le_succ _) s (T0'.wsc t s hs)
end Go.Sx
/- Layout: plain. -/
namespace Go.Pl
open Go.Sx
noncomputable def tC(l:List (List Nat)):Nat→Nat×(Nat→Nat→qB):=fun q=>((gT l q).length,cE (gT l q))
theorem qBx(l:List (List Nat))(k q:Nat)(x:List Nat)(h:k<l.length):gT (l.set k x) q=if q=k then x else gT l q:=by
 simp only[gT,List.getD_eq_getElem?_getD,List.getElem?_set]
 by_cases hk:k=q
 ·subst hk; rw[if_pos rfl,if_pos h,if_pos rfl]; rfl
 ·rw[if_neg hk,if_neg (fun hh=>hk hh.symm)]
theorem zOk{l:List (List Nat)}{k:Nat}(h:k<l.length)(x:List Nat){c:Nat→Nat→qB}(hc:c=cE x):qIl (tC l) k x.length c=tC (l.set k x):=by
 subst hc
 funext q
 by_cases hq:q=k
 ·subst hq; rw[zAi,tC,qBx l q q x h,if_pos rfl]
 ·rw[zAs _ _ _ _ hq,tC,tC,qBx l k q x h,if_neg hq]
theorem qRm{l:List (List Nat)}{k:Nat}(h:k<l.length)(x:List Nat):qIl (tC l) k x.length (Ct.fn (cE x)).at=tC (l.set k x):=zOk h x rfl
theorem qIh(n q:Nat):gT (List.replicate n []) q=[]:=by
 rw[gT,List.getD_eq_getElem?_getD,List.getElem?_replicate]
 split <;> rfl
theorem zRw(n:Nat):tC (List.replicate n [])=fun _=>(0,cE []):=by
 funext q
 rw[tC,qIh]; rfl
theorem qFa{l:List (List Nat)}{k:Nat}{u:Int}{r v:Nat}(hk:k<l.length)(h:∀ q,((gT l q).length:Int)≤u)(hr:(r:Int)+1≤u):∀ q,((gT (l.set k (zO (gT l k) r v)) q).length:Int)≤u:=by
 intro q
 rw[qBx l k q _ hk]
 by_cases hq:q=k
 ·rw[if_pos hq,qUl]
  have:=h k
  omega
 ·rw[if_neg hq]; exact h q
def qAk(u:Int):List (Int×List Nat)→List (List Nat)→Option (List (List Nat))
 | t::r,lF=>if u<(t.2.length:Int) then none else qAk u r (lF.set t.1.toNat t.2)
 | [],lF=>some lF
def xZ(s:Int):List Pt→List (List Nat)→List (List Nat)→List (List Nat)×List (List Nat)
 | x::t,lF,lA=>if x.kd=2 then xZ s t (lF.set x.co.toNat (zO (gT lF x.co.toNat) (s+x.of).toNat x.v)) lA else xZ s t lF (lA.set x.co.toNat (zO (gT lA x.co.toNat) (s+x.of).toNat x.v))
 | [],lF,lA=>(lF,lA)
def xV(u:Int):List (Int×List Pt)→List (List Int)→List Int→List (List Nat)→List (List Nat)→List Int→Option (List (List Nat)×List (List Nat)×List Int)
 | r::t,kl,ml,lF,lA,ss=>match qDw kl ml r.1 u r.2 with
  | none=>none
  | some s=>xV u t (xO (xB r.1 s) kl ml r.2).1 (xO (xB r.1 s) kl ml r.2).2 (xZ s r.2 lF lA).1 (xZ s r.2 lF lA).2 (ss++[s])
 | [],_,_,lF,lA,ss=>some (lF,lA,ss)
def qAf(ss:List Int)(x:Int×Int×Int):Int×Int:=(x.2.1,if 0≤x.1 then x.2.2+gI ss x.1.toNat else x.2.2)
def wG(ss:List Int)(l:List ((Int×Int×Int)×(Int×Int×Int))):List (Int×Int×Int×Int):=l.map fun x=>((qAf ss x.1).1,(qAf ss x.1).2,(qAf ss x.2).1,(qAf ss x.2).2)
def qKv:Sht:=⟨[],[],[],[]⟩
def qS(c:Cir)(k:Int)(p:Pln):(Sht×List Int)×Int :=
 if qAl c k p≠0 then((qKv,[]),qAl c k p) else match qAk (usN k) p.tb (List.replicate c.fx.toNat []) with
  | none=>((qKv,[]),141)
  | some lF=>match xV (usN k) p.rg [] [] lF (List.replicate c.ad.toNat []) [] with
   | none=>((qKv,[]),141)
   | some z=>((⟨z.1,z.2.1,p.is,wG z.2.2 p.lk⟩,z.2.2),0)
/-! ### what a right plan has -/
theorem jE{b x:Bool}:(bif b then false else x)=true↔b=false∧x=true:=by cases b <;> simp
theorem qGq{b x:Bool}:(bif b then x else false)=true↔b=true∧x=true:=by cases b <;> simp
theorem qUj(fx:Int):∀(l:List (Int×List Nat)) (met:List (List Int)),qNq fx met l=true→∀ t∈l,0≤t.1∧t.1<fx
 | [],_,_,t,ht=>by cases ht
 | x::r,met,h,t,ht=>by
  rw[qNq,jE,jE,jE] at h
  obtain⟨_,h1,h2,h3⟩:=h
  have h1:=of_decide_eq_false h1
  have h2:=of_decide_eq_false h2
  rcases List.mem_cons.1 ht with rfl | ht
  ·omega
  ·exact qUj fx r _ h3 t ht
structure ptR (c : Cir) (rows : Int) (x : Pt) : Prop where
  k : (x.kd = 2 ∧ x.co < c.fx) ∨ (x.kd = 3 ∧ x.co < c.ad)
  c0 : 0 ≤ x.co
  o0 : 0 ≤ x.of
  o1 : x.of < rows
theorem zCq{c:Cir}{p:Pln}{rows:Int}{x:Pt}(h:qTt c p rows x.1 x.2 x.3=true):ptR c rows x:=by
 rw[qTt,jE,jE,jE,jE,jE] at h
 obtain⟨h1,h2,h3,h4,h5,_⟩:=h
 have h2:=of_decide_eq_false h2
 have h3:=of_decide_eq_false h3
 have h4:=of_decide_eq_false h4
 have h5:=of_decide_eq_false h5
 refine⟨?_,by omega,by omega,by omega⟩
 by_cases k2:x.kd=2
 ·rw[k2] at h3
  refine .inl ⟨k2,?_⟩
  simp [zM,zA] at h3
  omega
 ·by_cases k3:x.kd=3
  ·rw[k3] at h3
   refine .inr ⟨k3,?_⟩
   simp [zM,zA] at h3
   omega
  ·simp [yN,k2,k3] at h1
theorem qVr{c:Cir}{p:Pln}{rows:Int}:∀(l:List Pt) (met:List (List Int)),qYf c p rows met l=true→∀ x∈l,ptR c rows x
 | [],_,_,x,hx=>by cases hx
 | y::t,met,h,x,hx=>by
  rw[qYf,jE,jE] at h
  obtain⟨_,h1,h2⟩:=h
  rcases List.mem_cons.1 hx with rfl | hx
  ·exact zCq (by simpa using h1)
  ·exact qVr t _ h2 x hx
theorem qLh{kl:List (List Int)}{ml:List Int}{rows u:Int}{ps:List Pt}:∀(d:Nat) (s0 s:Int),qJp kl ml rows u ps d s0=some s→s0≤s∧s<s0+d
 | 0,s0,s,h=>by cases h
 | d+1,s0,s,h=>by
  rw[qJp] at h
  split at h
  ·have:=qLh d (s0+1) s h
   omega
  ·simp only[sI] at h
   omega
theorem qAx{kl:List (List Int)}{ml:List Int}{rows u:Int}{ps:List Pt}{s:Int}(h:qDw kl ml rows u ps=some s):0≤s∧s+rows≤u:=by
 rw[qDw] at h
 split at h
 ·have:=qLh _ _ _ h
  omega
 ·cases h
theorem qDn(s:Int):∀(ps:List Pt) (lF lA:List (List Nat)),(xZ s ps lF lA).1.length=lF.length∧(xZ s ps lF lA).2.length=lA.length
 | [],_,_=>⟨rfl,rfl⟩
 | x::t,lF,lA=>by
  rw[xZ]
  split
  ·have:=qDn s t (lF.set x.co.toNat (zO (gT lF x.co.toNat) (s+x.of).toNat x.v)) lA
   rw[List.length_set] at this
   exact this
  ·have:=qDn s t lF (lA.set x.co.toNat (zO (gT lA x.co.toNat) (s+x.of).toNat x.v))
   rw[List.length_set] at this
   exact this
theorem qKc{c:Cir}{rows u s:Int}(h0:0≤s)(hu:s+rows≤u):∀(ps:List Pt) (lF lA:List (List Nat)),(∀ x∈ps,ptR c rows x)→lF.length=c.fx.toNat→lA.length=c.ad.toNat→(∀ q,((gT lF q).length:Int)≤u)→(∀ q,((gT lA q).length:Int)≤u)→(∀ q,((gT (xZ s ps lF lA).1 q).length:Int)≤u)∧(∀ q,((gT (xZ s ps lF lA).2 q).length:Int)≤u)
 | [],_,_,_,_,_,h3,h4=>⟨h3,h4⟩
 | x::t,lF,lA,h,h1,h2,h3,h4=>by
  have hx:=h x List.mem_cons_self
  have ht:=fun y hy=>h y (List.mem_cons_of_mem _ hy)
  have a1:=hx.c0
  have a2:=hx.o0
  have a3:=hx.o1
  rw[xZ]
  rcases hx.k with ⟨k2,kc⟩ | ⟨k3,kc⟩
  ·rw[if_pos k2]
   exact qKc h0 hu t _ _ ht (by rw[List.length_set]; exact h1) h2 (qFa (by omega) h3 (by omega)) h4
  ·rw[if_neg (by omega)]
   exact qKc h0 hu t _ _ ht h1 (by rw[List.length_set]; exact h2) h3 (qFa (by omega) h4 (by omega))
theorem qPf{u:Int}:∀(rs:List (Int×List Pt)) (kl:List (List Int)) (ml:List Int) (lF lA:List (List Nat)) (ss:List Int) (z:List (List Nat)×List (List Nat)×List Int),xV u rs kl ml lF lA ss=some z→(∀ s∈ss,0≤s∧s≤u)→(∀ r∈rs,1≤r.1)→z.2.2.length=ss.length+rs.length∧(∀ s∈z.2.2,0≤s∧s≤u)∧∀ r∈rs,r.1≤u
 | [],kl,ml,lF,lA,ss,z,h,hs,_=>by
  simp only[xV,sI] at h
  subst h
  exact⟨rfl,hs,fun r hr=>by cases hr⟩
 | r::t,kl,ml,lF,lA,ss,z,h,hs,hr=>by
  rw[xV] at h
  cases hp:qDw kl ml r.1 u r.2 with
  | none=>rw[hp] at h; cases h
  | some s =>
   rw[hp] at h
   have h1:=qAx hp
   have hr1:=hr r List.mem_cons_self
   obtain⟨a1,a2,a3⟩:=qPf t _ _ _ _ _ z h (fun x hx=>by
    rcases List.mem_append.1 hx with hx | hx
    ·exact hs x hx
    ·rw[List.mem_singleton] at hx; omega) (fun x hx=>hr x (List.mem_cons_of_mem _ hx))
   refine⟨by rw[a1,List.length_append,List.length_singleton,List.length_cons]; omega,a2,fun x hx=>?_⟩
   rcases List.mem_cons.1 hx with rfl | hx
   ·omega
   ·exact a3 x hx
theorem zKo{l:List Int}{u:Int}(h:∀ s∈l,0≤s∧s≤u)(hu:0≤u)(k:Nat):0≤gI l k∧gI l k≤u:=by
 rw[gI,List.getD_eq_getElem?_getD]
 rcases Nat.lt_or_ge k l.length with hk | hk
 ·rw[List.getElem?_eq_getElem hk]; exact h _ (List.getElem_mem hk)
 ·rw[List.getElem?_eq_none hk]; exact⟨Int.le_refl _,hu⟩
theorem qKi{l:List (Int×Int×Int×Int)}{k:Nat}(a b x y:Int)(h:l.length=k):IsC (k+1) 4 (Ct.app k (.fn (cP l)) (.lit 4 [.v (.int .i64 a),.v (.int .i64 b),.v (.int .i64 x),.v (.int .i64 y)])).at (Ct.fn (cP (l++[(a,b,x,y)]))).at:=by
 subst h
 exact xY zKu dP 4 l (a,b,x,y) _ fun j hj=>by
  match j,hj with
  | 0,_=>rfl
  | 1,_=>rfl
  | 2,_=>rfl
  | 3,_=>rfl
theorem zFw{l:List ((Int×Int×Int)×(Int×Int×Int))}{k:Nat}(h:k<l.length):l.take (k+1)=l.take k++[gLk l k]:=by
 rw[List.take_add_one,gLk,List.getD_eq_getElem?_getD,List.getElem?_eq_getElem h]; rfl
structure rgR (c : Cir) (r : Int × List Pt) : Prop where
  w : 1 ≤ r.1
  n : r.2.length ≤ 64
  x : ∀ x ∈ r.2, ptR c r.1 x
theorem zCc{c:Cir}{p:Pln}{r:Int×List Pt}(h:qSi c p r=true):rgR c r:=by
 rw[qSi,jE,jE] at h
 obtain⟨h1,h2,h3⟩:=h
 have h1:=of_decide_eq_false h1
 have h2:=of_decide_eq_false h2
 exact⟨by omega,by omega,qVr r.2 [] h3⟩
structure enR (c : Cir) (p : Pln) (u : Int) (x : Int × Int × Int) : Prop where
  r0 : -1 ≤ x.1
  r1 : x.1 < (p.rg.length : Int)
  c0 : 0 ≤ x.2.1
  c1 : x.2.1 < (c.eqs.length : Int)
  o0 : 0 ≤ x.2.2
  o1 : x.1 < 0 → x.2.2 < u
  o2 : 0 ≤ x.1 → x.2.2 < (gRg p.rg x.1.toNat).1
theorem qOl{c:Cir}{p:Pln}{u:Int}{x:Int×Int×Int}(h:qNu c p u x.1 x.2.1 x.2.2=true):enR c p u x:=by
 rw[qNu,jE,jE,jE,jE,jE] at h
 obtain⟨h1,h2,h3,h4,h5,h6⟩:=h
 have h1:=of_decide_eq_false h1
 have h2:=of_decide_eq_false h2
 have h3:=of_decide_eq_false h3
 have h4:=of_decide_eq_false h4
 have h5:=of_decide_eq_false h5
 refine⟨by omega,by omega,by omega,by omega,by omega,fun hn=>?_,fun hn=>?_⟩
 ·rw[decide_eq_true hn,cond_true] at h6
  exact of_decide_eq_true h6
 ·rw[decide_eq_false (by omega),cond_false,qGq] at h6
  exact of_decide_eq_true h6.2
structure plR (c : Cir) (p : Pln) (u : Int) : Prop where
  nr : p.rg.length ≤ 64
  nl : p.lk.length ≤ 256
  t : ∀ t ∈ p.tb, 0 ≤ t.1 ∧ t.1 < c.fx
  i : (p.is.length : Int) = c.ins
  r : ∀ r ∈ p.rg, rgR c r
  l : ∀ x ∈ p.lk, enR c p u x.1 ∧ enR c p u x.2
  iu : ∀ x ∈ p.is, (x.length : Int) ≤ u
theorem qNe{c:Cir}{p:Pln}{u:Int}(h:qBs c p u=true):plR c p u:=by
 rw[qBs,qGq,qGq,qGq,qGq,jE,jE] at h
 obtain⟨h1,h2,h3,h4,h5,h6,h7⟩:=h
 refine⟨by have:=of_decide_eq_true h1; omega,by have:=of_decide_eq_true h2; omega,qUj _ _ _ h3,by simpa using h4,fun r hr=>?_,fun x hx=>?_,fun x hx=>?_⟩
 ·have:=List.any_eq_false.1 h6 r hr
  exact zCc (by simpa[rgN] using this)
 ·have h8:p.lk.any (lkB c p u)=false:=by simpa using h7
  have:=List.any_eq_false.1 h8 x hx
  rw[lkB] at this
  cases ha:qNu c p u x.1.1 x.1.2.1 x.1.2.2 with
  | false=>rw[ha] at this; exact absurd rfl this
  | true =>
   rw[ha] at this
   cases hb:qNu c p u x.2.1 x.2.2.1 x.2.2.2 with
   | false=>rw[hb] at this; exact absurd rfl this
   | true=>exact⟨qOl ha,qOl hb⟩
 ·have:=List.any_eq_false.1 h5 x hx
  simp [wK] at this
  omega
theorem zLh{k:Int}(h:k≤5):0≤usN k∧usN k≤28:=by
 rw[usN]
 split
 ·omega
 ·have:k=2∨k=3∨k=4∨k=5:=by omega
  rcases this with rfl | rfl | rfl | rfl <;> decide
theorem qHc{c:Cir}(h:xA c=0):qSv c=true:=(zBv (zCs h).2).1
theorem qKb{u:Int}:∀(ts:List (Int×List Nat)) (lF z:List (List Nat)),qAk u ts lF=some z→(∀ q,((gT lF q).length:Int)≤u)→∀ q,((gT z q).length:Int)≤u
 | [],lF,z,h,hc=>by
  simp only[qAk,sI] at h
  subst h
  exact hc
 | t::r,lF,z,h,hc=>by
  rw[qAk] at h
  split at h
  ·cases h
  ·rename_i hu
   refine qKb r _ z h fun q=>?_
   rcases Nat.lt_or_ge t.1.toNat lF.length with hk | hk
   ·rw[qBx lF _ q _ hk]
    split
    ·omega
    ·exact hc q
   ·rw[List.set_eq_of_length_le hk]; exact hc q
theorem qAo(n:Nat){u:Int}(hu:0≤u)(q:Nat):((gT (List.replicate n []) q).length:Int)≤u:=by rw[qIh]; exact hu
structure lLy (fx ad ins k : Int) (n0 n1 n2 n3 m0 m1 m2 m3 : Nat) (c0 c1 c2 c3 d0 d1 d2 d3 : Nat → Nat → qB) (kE : Int → Prop) (kS : Sht → List Int → Prop) : Prop where
  h : lSh fx ad ins n0 n1 n2 n3 m0 m1 m2 m3 c0 c1 c2 c3 d0 d1 d2 d3 fun c p => ((qS c k p).2 ≠ 0 → kE (qS c k p).2) ∧ ((qS c k p).2 = 0 → kS (qS c k p).1.1 (qS c k p).1.2)
end Go.Pl
namespace Go.Proofs.Ytlmjdcbhpffanaa
open Go.Sx Go.Pl
set_option linter.unusedVariables false
set_option maxRecDepth 100000
noncomputable def qMn:Con Try.prog:=zRp.setW 41
end Go.Proofs.Ytlmjdcbhpffanaa
