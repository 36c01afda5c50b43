/- The texts Z123d .. Z146 of this proof, one behind the other. -/
import Derived.Test.YtlmjdcbhpffanaaGreatM3
import Derived.Test.YtlmjdcbhpffanaaGreatM2
/- Layout: links. -/
namespace Go.Proofs.YtlmjdcbhpffanaaGreat
open Go.Sx Go.Pl
set_option linter.unusedVariables false
set_option maxRecDepth 100000
theorem zRh(c:Cir)(p:Pln)(k:Int)(lF lA:List (List Nat))(ls:List (List Nat))(ss:List Int)(cs:List (Int×Int×Int×Int))(m ms nc i M:Nat)(K:List It→St→Prop)(R:SV→List HO→Prop):W (xwp Tryz.prog X zJp [(46,[])] 60 (qO Tryz.f12 [] [⟨[0,1,0,1,1,1,1],[49,48,47,11,10,6,5,3],[]⟩,⟨[0,1,0,1,1,1,1,1],[64,63,62,11,10,6,5,3],[]⟩,⟨[0,1,0,1,1,1,1,1,1,1,1,1],[93,92,91,18,17,16,11,10,6,5,3],[]⟩,⟨[0,1,1,1,1,1,0,0,1,1,0,0,1,0,1,1,1,1,1,1,1,1,1],[114,113,112,21,93,92,91,18,17,16,11,10,6,5,3],[]⟩,⟨[0,1,0,1,1,1,1,1,1,1,1,1,1,1],[144,143,142,26,18,11,6,5,3],[]⟩]) [] (.at [0,0,1,0,1,1,1,1,1,1,1,1,1,1,1]::.rnd [0,0,1,0,1,1,1,1,1,1,1,1,1,1,1] M::[.blk 8,.at [1,1,1,1,1,1,1,1,1,1,1,1]]) (St.mk [(144,.v (qA (i:Int))),(143,.v (qA (↑p.3.length:Int))),(142,.x 0 []),(26,SV.fn (Fn.func 46) [] [.p 1 0]),(18,.p 1 0),(11,.p 2 0),(6,.p 3 0),(5,.p 4 0),(3,.p 5 0)] [.ext false (.s false 6 p.3.length (cLk p.3)),.cells [.x 6 []] 23,.cells [.x 7 [],.x 8 [],.x 9 [],.o 10] 42,.cells [.v (Value.slice none 0 0),.v (Value.slice none 0 0),.v (Value.slice none 0 0),.v (Value.slice none 0 0)] 42,.cells [.x 11 [],.x 12 [],.x 0 [],.x 13 []] 33,.cells [.v (qA c.1),.v (qA c.2),.v (qA c.3),.x 14 [],.x 15 [],.x 16 [],.x 17 []] 27,.ext false (.s false 1 ms (cI ss)),.ext false (.s false 1 lF.length (cT lF)),.ext false (.s false 1 lA.length (cT lA)),.ext false (.s false 1 m (cT ls)),.rowc 101 4 nc (.fn (cP cs)),.ext false (.s false 2 p.1.length (cRg p.1)),.ext false (.s false 2 p.2.length (cTa p.2)),.ext false (.s false 1 p.4.length (cT p.4)),.ext false (.s false 7 c.4.length (cN c.4)),.ext false (.s false 1 c.5.length (cI c.5)),.ext false (.s false 2 c.6.length (cL c.6)),.ext false (.s false 2 c.7.length (cK c.7))]) K R)=W (bif decide ((↑i:Int)<(↑p.3.length:Int)) then(∀ M:Mem,(0:Int)≤(↑i:Int)∧(↑i:Int)<(↑p.3.length:Int))∧(∀ M:Mem,i<List.length p.3)∧(∀ M:Mem,0+6≤6)∧bif decide ((0:Int)≤(gLk p.3 i).1.1) then(∀ M:Mem,0<1)∧(∀ M:Mem,0<1)∧(∀ M:Mem,(0:Int)≤(gLk p.3 i).1.1∧(gLk p.3 i).1.1<(↑ms:Int))∧(∀ M:Mem,0<1)∧(∀ M:Mem,Int.toNat (gLk p.3 i).1.1<ms)∧(∀ M:Mem,2+1≤3)∧(∀ M:Mem,0+2≤2)∧bif decide ((0:Int)≤(gLk p.3 i).2.1) then(∀ M:Mem,0<1)∧(∀ M:Mem,0<1)∧(∀ M:Mem,(0:Int)≤(gLk p.3 i).2.1∧(gLk p.3 i).2.1<(↑ms:Int))∧(∀ M:Mem,0<1)∧(∀ M:Mem,Int.toNat (gLk p.3 i).2.1<ms)∧(∀ M:Mem,2+1≤3)∧(∀ M:Mem,0+2≤2)∧(∀ M:Mem,(nc+1)*32≤140737488355328∧nc+1≤140737488355328)∧(∀ M:Mem,3+1≤4)∧K [.rnd [0,0,1,0,1,1,1,1,1,1,1,1,1,1,1] M,.blk 8,.at [1,1,1,1,1,1,1,1,1,1,1,1]] (St.mk [(144,.v (qA (IntKind.wrap .i64 ((↑i:Int)+(1:Int))))),(143,.v (qA (↑p.3.length:Int))),(142,.x 0 []),(26,SV.fn (Fn.func 46) [] [.p 1 0]),(18,.p 1 0),(11,.p 2 0),(6,.p 3 0),(5,.p 4 0),(3,.p 5 0)] [.ext false (.s false 6 p.3.length (cLk p.3)),.cells [.x 6 []] 23,.cells [.x 7 [],.x 8 [],.x 9 [],.o 10] 42,.cells [.v (Value.slice none 0 0),.v (Value.slice none 0 0),.v (Value.slice none 0 0),.v (Value.slice none 0 0)] 42,.cells [.x 11 [],.x 12 [],.x 0 [],.x 13 []] 33,.cells [.v (qA c.1),.v (qA c.2),.v (qA c.3),.x 14 [],.x 15 [],.x 16 [],.x 17 []] 27,.ext false (.s false 1 ms (cI ss)),.ext false (.s false 1 lF.length (cT lF)),.ext false (.s false 1 lA.length (cT lA)),.ext false (.s false 1 m (cT ls)),.rowc 101 4 (nc+1) (.app nc (.fn (cP cs)) (.lit 4 [.v (qA (gLk p.3 i).1.2.1),.v (qA (IntKind.wrap .i64 ((gLk p.3 i).1.2.2+gI ss (Int.toNat (gLk p.3 i).1.1)))),.v (qA (gLk p.3 i).2.2.1),.v (qA (IntKind.wrap .i64 ((gLk p.3 i).2.2.2+gI ss (Int.toNat (gLk p.3 i).2.1))))])),.ext false (.s false 2 p.1.length (cRg p.1)),.ext false (.s false 2 p.2.length (cTa p.2)),.ext false (.s false 1 p.4.length (cT p.4)),.ext false (.s false 7 c.4.length (cN c.4)),.ext false (.s false 1 c.5.length (cI c.5)),.ext false (.s false 2 c.6.length (cL c.6)),.ext false (.s false 2 c.7.length (cK c.7))]) else(∀ M:Mem,0+2≤2)∧(∀ M:Mem,(nc+1)*32≤140737488355328∧nc+1≤140737488355328)∧(∀ M:Mem,3+1≤4)∧K [.rnd [0,0,1,0,1,1,1,1,1,1,1,1,1,1,1] M,.blk 8,.at [1,1,1,1,1,1,1,1,1,1,1,1]] (St.mk [(144,.v (qA (IntKind.wrap .i64 ((↑i:Int)+(1:Int))))),(143,.v (qA (↑p.3.length:Int))),(142,.x 0 []),(26,SV.fn (Fn.func 46) [] [.p 1 0]),(18,.p 1 0),(11,.p 2 0),(6,.p 3 0),(5,.p 4 0),(3,.p 5 0)] [.ext false (.s false 6 p.3.length (cLk p.3)),.cells [.x 6 []] 23,.cells [.x 7 [],.x 8 [],.x 9 [],.o 10] 42,.cells [.v (Value.slice none 0 0),.v (Value.slice none 0 0),.v (Value.slice none 0 0),.v (Value.slice none 0 0)] 42,.cells [.x 11 [],.x 12 [],.x 0 [],.x 13 []] 33,.cells [.v (qA c.1),.v (qA c.2),.v (qA c.3),.x 14 [],.x 15 [],.x 16 [],.x 17 []] 27,.ext false (.s false 1 ms (cI ss)),.ext false (.s false 1 lF.length (cT lF)),.ext false (.s false 1 lA.length (cT lA)),.ext false (.s false 1 m (cT ls)),.rowc 101 4 (nc+1) (.app nc (.fn (cP cs)) (.lit 4 [.v (qA (gLk p.3 i).1.2.1),.v (qA (IntKind.wrap .i64 ((gLk p.3 i).1.2.2+gI ss (Int.toNat (gLk p.3 i).1.1)))),.v (qA (gLk p.3 i).2.2.1),.v (qA (gLk p.3 i).2.2.2)])),.ext false (.s false 2 p.1.length (cRg p.1)),.ext false (.s false 2 p.2.length (cTa p.2)),.ext false (.s false 1 p.4.length (cT p.4)),.ext false (.s false 7 c.4.length (cN c.4)),.ext false (.s false 1 c.5.length (cI c.5)),.ext false (.s false 2 c.6.length (cL c.6)),.ext false (.s false 2 c.7.length (cK c.7))]) else(∀ M:Mem,0+2≤2)∧bif decide ((0:Int)≤(gLk p.3 i).2.1) then(∀ M:Mem,0<1)∧(∀ M:Mem,0<1)∧(∀ M:Mem,(0:Int)≤(gLk p.3 i).2.1∧(gLk p.3 i).2.1<(↑ms:Int))∧(∀ M:Mem,0<1)∧(∀ M:Mem,Int.toNat (gLk p.3 i).2.1<ms)∧(∀ M:Mem,2+1≤3)∧(∀ M:Mem,0+2≤2)∧(∀ M:Mem,(nc+1)*32≤140737488355328∧nc+1≤140737488355328)∧(∀ M:Mem,3+1≤4)∧K [.rnd [0,0,1,0,1,1,1,1,1,1,1,1,1,1,1] M,.blk 8,.at [1,1,1,1,1,1,1,1,1,1,1,1]] (St.mk [(144,.v (qA (IntKind.wrap .i64 ((↑i:Int)+(1:Int))))),(143,.v (qA (↑p.3.length:Int))),(142,.x 0 []),(26,SV.fn (Fn.func 46) [] [.p 1 0]),(18,.p 1 0),(11,.p 2 0),(6,.p 3 0),(5,.p 4 0),(3,.p 5 0)] [.ext false (.s false 6 p.3.length (cLk p.3)),.cells [.x 6 []] 23,.cells [.x 7 [],.x 8 [],.x 9 [],.o 10] 42,.cells [.v (Value.slice none 0 0),.v (Value.slice none 0 0),.v (Value.slice none 0 0),.v (Value.slice none 0 0)] 42,.cells [.x 11 [],.x 12 [],.x 0 [],.x 13 []] 33,.cells [.v (qA c.1),.v (qA c.2),.v (qA c.3),.x 14 [],.x 15 [],.x 16 [],.x 17 []] 27,.ext false (.s false 1 ms (cI ss)),.ext false (.s false 1 lF.length (cT lF)),.ext false (.s false 1 lA.length (cT lA)),.ext false (.s false 1 m (cT ls)),.rowc 101 4 (nc+1) (.app nc (.fn (cP cs)) (.lit 4 [.v (qA (gLk p.3 i).1.2.1),.v (qA (gLk p.3 i).1.2.2),.v (qA (gLk p.3 i).2.2.1),.v (qA (IntKind.wrap .i64 ((gLk p.3 i).2.2.2+gI ss (Int.toNat (gLk p.3 i).2.1))))])),.ext false (.s false 2 p.1.length (cRg p.1)),.ext false (.s false 2 p.2.length (cTa p.2)),.ext false (.s false 1 p.4.length (cT p.4)),.ext false (.s false 7 c.4.length (cN c.4)),.ext false (.s false 1 c.5.length (cI c.5)),.ext false (.s false 2 c.6.length (cL c.6)),.ext false (.s false 2 c.7.length (cK c.7))]) else(∀ M:Mem,0+2≤2)∧(∀ M:Mem,(nc+1)*32≤140737488355328∧nc+1≤140737488355328)∧(∀ M:Mem,3+1≤4)∧K [.rnd [0,0,1,0,1,1,1,1,1,1,1,1,1,1,1] M,.blk 8,.at [1,1,1,1,1,1,1,1,1,1,1,1]] (St.mk [(144,.v (qA (IntKind.wrap .i64 ((↑i:Int)+(1:Int))))),(143,.v (qA (↑p.3.length:Int))),(142,.x 0 []),(26,SV.fn (Fn.func 46) [] [.p 1 0]),(18,.p 1 0),(11,.p 2 0),(6,.p 3 0),(5,.p 4 0),(3,.p 5 0)] [.ext false (.s false 6 p.3.length (cLk p.3)),.cells [.x 6 []] 23,.cells [.x 7 [],.x 8 [],.x 9 [],.o 10] 42,.cells [.v (Value.slice none 0 0),.v (Value.slice none 0 0),.v (Value.slice none 0 0),.v (Value.slice none 0 0)] 42,.cells [.x 11 [],.x 12 [],.x 0 [],.x 13 []] 33,.cells [.v (qA c.1),.v (qA c.2),.v (qA c.3),.x 14 [],.x 15 [],.x 16 [],.x 17 []] 27,.ext false (.s false 1 ms (cI ss)),.ext false (.s false 1 lF.length (cT lF)),.ext false (.s false 1 lA.length (cT lA)),.ext false (.s false 1 m (cT ls)),.rowc 101 4 (nc+1) (.app nc (.fn (cP cs)) (.lit 4 [.v (qA (gLk p.3 i).1.2.1),.v (qA (gLk p.3 i).1.2.2),.v (qA (gLk p.3 i).2.2.1),.v (qA (gLk p.3 i).2.2.2)])),.ext false (.s false 2 p.1.length (cRg p.1)),.ext false (.s false 2 p.2.length (cTa p.2)),.ext false (.s false 1 p.4.length (cT p.4)),.ext false (.s false 7 c.4.length (cN c.4)),.ext false (.s false 1 c.5.length (cI c.5)),.ext false (.s false 2 c.6.length (cL c.6)),.ext false (.s false 2 c.7.length (cK c.7))]) else((∀ M:Mem,4≤4)∧R (.tup [.agg [.x 0 [],.x 1 [],.x 2 [],.o 3],.x 4 [],.v (qA 0)]) [.ext false (.s false 1 lF.length (cT lF)),.ext false (.s false 1 lA.length (cT lA)),.ext false (.s false 1 m (cT ls)),.rowc 101 4 nc (.fn (cP cs)),.ext false (.s false 1 ms (cI ss))])∧((∀ M:Mem,4≤4)∧R (.tup [.agg [.x 0 [],.x 1 [],.x 2 [],.o 3],.x 4 [],.v (qA 0)]) [.ext false (.s false 1 lF.length (cT lF)),.ext false (.s false 1 lA.length (cT lA)),.ext false (.s false 1 m (cT ls)),.rowc 101 4 nc (.fn (cP cs)),.ext false (.s false 1 ms (cI ss))])∧(∀ M:Mem,4≤4)∧R (.tup [.agg [.x 0 [],.x 1 [],.x 2 [],.o 3],.x 4 [],.v (qA 0)]) [.ext false (.s false 1 lF.length (cT lF)),.ext false (.s false 1 lA.length (cT lA)),.ext false (.s false 1 m (cT ls)),.rowc 101 4 nc (.fn (cP cs)),.ext false (.s false 1 ms (cI ss))]):=by kernel_rfl
theorem qPi(c:Cir)(p:Pln)(k u:Int)(hR:plR c p u)(hu0:0≤u)(hu:u≤1000000)(lF lA:List (List Nat))(ss:List Int)(hsl:ss.length=p.rg.length)(hsb:∀ s∈ss,0≤s∧s≤u)(hrb:∀ r∈p.rg,r.1≤u)(Q:SV→List HO→Prop)(hq:Q (SV.tup [SV.agg [SV.x 0 [],SV.x 1 [],SV.x 2 [],SV.o 3],SV.x 4 [],SV.v (qA (0:Int))]) [HO.ext false (qB.s false 1 lF.length (cT lF)),HO.ext false (qB.s false 1 lA.length (cT lA)),HO.ext false (qB.s false 1 p.is.length (cT p.is)),HO.rowc 101 4 (yR ss p.lk).length (Ct.fn (cP (yR ss p.lk))),HO.ext false (qB.s false 1 ss.length (cI ss))]):∀(d i:Nat) (cs:List (Int×Int×Int×Int)),i+d=p.lk.length→cs=yR ss (p.lk.take i) →
  FOk Tryz.prog Tryz.f12 Q (.rnd [0,0,1,0,1,1,1,1,1,1,1,1,1,1,1] (d+1)::[.blk 8,.at [1,1,1,1,1,1,1,1,1,1,1,1]]) (St.mk [(144,SV.v (qA (i:Int))),(143,SV.v (qA (↑(List.length p.3):Int))),(142,SV.x 0 []),(26,SV.fn (Fn.func 46) [] [SV.p 1 0]),(18,SV.p 1 0),(11,SV.p 2 0),(6,SV.p 3 0),(5,SV.p 4 0),(3,SV.p 5 0)] [HO.ext false (qB.s false 6 (List.length p.3) (cLk p.3)),HO.cells [SV.x 6 []] 23,HO.cells [SV.x 7 [],SV.x 8 [],SV.x 9 [],SV.o 10] 42,HO.cells [SV.v (Value.slice none 0 0),SV.v (Value.slice none 0 0),SV.v (Value.slice none 0 0),SV.v (Value.slice none 0 0)] 42,HO.cells [SV.x 11 [],SV.x 12 [],SV.x 0 [],SV.x 13 []] 33,HO.cells [SV.v (qA c.1),SV.v (qA c.2),SV.v (qA c.3),SV.x 14 [],SV.x 15 [],SV.x 16 [],SV.x 17 []] 27,HO.ext false (qB.s false 1 ss.length (cI ss)),HO.ext false (qB.s false 1 lF.length (cT lF)),HO.ext false (qB.s false 1 lA.length (cT lA)),HO.ext false (qB.s false 1 p.is.length (cT p.is)),HO.rowc 101 4 cs.length (Ct.fn (cP cs)),HO.ext false (qB.s false 2 (List.length p.1) (cRg p.1)),HO.ext false (qB.s false 2 (List.length p.2) (cTa p.2)),HO.ext false (qB.s false 1 (List.length p.4) (cT p.4)),HO.ext false (qB.s false 7 (List.length c.4) (cN c.4)),HO.ext false (qB.s false 1 (List.length c.5) (cI c.5)),HO.ext false (qB.s false 2 (List.length c.6) (cL c.6)),HO.ext false (qB.s false 2 (List.length c.7) (cK c.7))])
 | 0,i,cs,hd,hc=>by
  refine FOk.rnd (qC hm 60 ((zRh c p k lF lA p.is ss cs p.is.length ss.length cs.length i 0 _ _).mpr ⟨?_⟩))
  rw[qD,if_neg (by omega)]
  rw[show i=p.lk.length by omega,List.take_length] at hc
  subst hc
  repeat' (first | refine And.intro (fun _=>by omega) ?_ | refine And.intro ?_ ?_)
  all_goals exact hq
 | d+1,i,cs,hd,hc=>by
  have hi:i<p.lk.length:=by omega
  have hl:=hR.nl
  obtain⟨ha,hb⟩:=hR.l _ (qJr hi)
  have hcl:cs.length=i:=by rw[hc,yR,List.length_map,List.length_take]; omega
  have hg1:=zJd hsb hu0 (gLk p.lk i).1.1.toNat
  have hg2:=zJd hsb hu0 (gLk p.lk i).2.1.toNat
  have a1:=ha.r0
  have a2:=ha.r1
  have a3:=ha.o0
  have a4:=ha.o1
  have a5:=ha.o2
  have b1:=hb.r0
  have b2:=hb.r1
  have b3:=hb.o0
  have b4:=hb.o1
  have b5:=hb.o2
  have a6:(gLk p.lk i).1.2.2≤u:=by
   rcases Int.lt_or_le (gLk p.lk i).1.1 0 with h | h
   ·have:=a4 h; omega
   ·have:=a5 h
    have:=hrb _ (zR (l:=p.rg) (k:=(gLk p.lk i).1.1.toNat) (by omega))
    omega
  have b6:(gLk p.lk i).2.2.2≤u:=by
   rcases Int.lt_or_le (gLk p.lk i).2.1 0 with h | h
   ·have:=b4 h; omega
   ·have:=b5 h
    have:=hrb _ (zR (l:=p.rg) (k:=(gLk p.lk i).2.1.toNat) (by omega))
    omega
  have e1:(yR ss (p.lk.take (i+1)))=cs++[((xF ss (gLk p.lk i).1).1,(xF ss (gLk p.lk i).1).2,(xF ss (gLk p.lk i).2).1,(xF ss (gLk p.lk i).2).2)]:=by rw[qKp hi,hc,yR,yR,List.map_append]; rfl
  have ih:=qPi c p k u hR hu0 hu lF lA ss hsl hsb hrb Q hq d (i+1) (yR ss (p.lk.take (i+1))) (by omega) rfl
  rw[e1] at ih
  refine FOk.rnd (qC hm 60 ((zRh c p k lF lA p.is ss cs p.is.length ss.length cs.length i (d+1) _ _).mpr ⟨?_⟩))
  rw[qD,if_pos (by omega),qK _ (by omega),zE ((gLk p.lk i).1.2.2+gI ss (Int.toNat (gLk p.lk i).1.1)) (by omega),zE ((gLk p.lk i).2.2.2+gI ss (Int.toNat (gLk p.lk i).2.1)) (by omega)]
  refine aI (aI (And.intro (fun _=>by omega) ?_))
  rw[qD]
  refine qG (fun h1=>?_) (fun h1=>?_)
  ·repeat' (refine And.intro (fun _=>by omega) ?_)
   rw[qD]
   rw[xF,if_pos h1] at ih
   refine qG (fun h2=>?_) (fun h2=>?_)
   ·rw[xF,if_pos h2] at ih
    repeat' (refine And.intro (fun _=>by omega) ?_)
    exact FOk.cv ih ⟨HE.refl _,HE.refl _,HE.refl _,HE.refl _,HE.refl _,HE.refl _,HE.refl _,HE.refl _,HE.refl _,HE.refl _,⟨rfl,rfl,by rw[List.length_append]; rfl,qAz _ _ _ _ rfl⟩,HE.refl _,HE.refl _,HE.refl _,HE.refl _,HE.refl _,HE.refl _,HE.refl _,trivial⟩
   ·rw[xF,if_neg h2] at ih
    repeat' (refine And.intro (fun _=>by omega) ?_)
    exact FOk.cv ih ⟨HE.refl _,HE.refl _,HE.refl _,HE.refl _,HE.refl _,HE.refl _,HE.refl _,HE.refl _,HE.refl _,HE.refl _,⟨rfl,rfl,by rw[List.length_append]; rfl,qAz _ _ _ _ rfl⟩,HE.refl _,HE.refl _,HE.refl _,HE.refl _,HE.refl _,HE.refl _,HE.refl _,trivial⟩
  ·repeat' (refine And.intro (fun _=>by omega) ?_)
   rw[qD]
   rw[xF,if_neg h1] at ih
   refine qG (fun h2=>?_) (fun h2=>?_)
   ·rw[xF,if_pos h2] at ih
    repeat' (refine And.intro (fun _=>by omega) ?_)
    exact FOk.cv ih ⟨HE.refl _,HE.refl _,HE.refl _,HE.refl _,HE.refl _,HE.refl _,HE.refl _,HE.refl _,HE.refl _,HE.refl _,⟨rfl,rfl,by rw[List.length_append]; rfl,qAz _ _ _ _ rfl⟩,HE.refl _,HE.refl _,HE.refl _,HE.refl _,HE.refl _,HE.refl _,HE.refl _,trivial⟩
   ·rw[xF,if_neg h2] at ih
    repeat' (refine And.intro (fun _=>by omega) ?_)
    exact FOk.cv ih ⟨HE.refl _,HE.refl _,HE.refl _,HE.refl _,HE.refl _,HE.refl _,HE.refl _,HE.refl _,HE.refl _,HE.refl _,⟨rfl,rfl,by rw[List.length_append]; rfl,qAz _ _ _ _ rfl⟩,HE.refl _,HE.refl _,HE.refl _,HE.refl _,HE.refl _,HE.refl _,HE.refl _,trivial⟩
end Go.Proofs.YtlmjdcbhpffanaaGreat
/- Layout. -/
namespace Go.Proofs.YtlmjdcbhpffanaaGreat
open Go.Sx Go.Pl
set_option linter.unusedVariables false
set_option maxRecDepth 100000
theorem zVb(c:Cir)(p:Pln)(k:Int)(K:List It→St→Prop)(R:SV→List HO→Prop):W (xwp Tryz.prog X qLt [] 60 (qO Tryz.f12 [] [⟨[0,1,0,1,1,1,1],[49,48,47,11,10,6,5,3],[]⟩,⟨[0,1,0,1,1,1,1,1],[64,63,62,11,10,6,5,3],[]⟩,⟨[0,1,0,1,1,1,1,1,1,1,1,1],[93,92,91,18,17,16,11,10,6,5,3],[]⟩,⟨[0,1,1,1,1,1,0,0,1,1,0,0,1,0,1,1,1,1,1,1,1,1,1],[114,113,112,21,93,92,91,18,17,16,11,10,6,5,3],[]⟩,⟨[0,1,0,1,1,1,1,1,1,1,1,1,1,1],[144,143,142,26,18,11,6,5,3],[]⟩]) [] [.at []] ⟨qQ 0 [.agg [.v (.int .i64 c.fx),.v (.int .i64 c.ad),.v (.int .i64 c.ins),.x 0 [],.x 1 [],.x 2 [],.x 3 []],.v (.int .i64 k),.agg [.x 4 [],.x 5 [],.x 6 [],.x 7 []]],[.ext false (.s false 7 c.4.length (cN c.4)),.ext false (.s false 1 c.5.length (cI c.5)),.ext false (.s false 2 c.6.length (cL c.6)),.ext false (.s false 2 c.7.length (cK c.7)),.ext false (.s false 2 p.1.length (cRg p.1)),.ext false (.s false 2 p.2.length (cTa p.2)),.ext false (.s false 6 p.3.length (cLk p.3)),.ext false (.s false 1 p.4.length (cT p.4))]⟩ K R)=W (lSh c.1 c.2 c.3 c.4.length c.5.length c.6.length c.7.length p.1.length p.2.length p.3.length p.4.length (cN c.4) (cI c.5) (cL c.6) (cK c.7) (cRg p.1) (cTa p.2) (cLk p.3) (cT p.4) fun(c_1:Cir) (p_1:Pln)=>bif !yT c_1 k p_1==(0:Int) then(∀ M:Mem,4≤4)∧R (.tup [.agg [.v (Value.slice none 0 0),.v (Value.slice none 0 0),.v (Value.slice none 0 0),.v (Value.slice none 0 0)],.v (Value.slice none 0 0),.v (qA (yT c_1 k p_1))]) [] else((∀ M:Mem,(0:Int)≤c.1∧c.1≤c.1∧(24:Int)*c.1≤(281474976710656:Int)∧c.1≤(9223372036854775807:Int))∧(∀ M:Mem,(0:Int)≤c.2∧c.2≤c.2∧(24:Int)*c.2≤(281474976710656:Int)∧c.2≤(9223372036854775807:Int))∧(∀ M:Mem,0+4≤4)∧K [.at [0,1,0,1,1,1,1],.blk 0,.at [1,1,1,1,1]] (St.mk [(49,.v (qA 0)),(48,.v (qA (↑p.4.length:Int))),(47,.x 0 []),(11,.p 1 0),(10,.v (qA (usN k))),(6,.p 2 0),(5,.p 3 0),(3,.p 4 0)] [.ext false (.s false 1 p.4.length (cT p.4)),.cells [.o 5,.o 6,.v (Value.slice none 0 0),.v (Value.slice none 0 0)] 42,.cells [.v (Value.slice none 0 0),.v (Value.slice none 0 0),.v (Value.slice none 0 0),.v (Value.slice none 0 0)] 42,.cells [.x 7 [],.x 8 [],.x 9 [],.x 0 []] 33,.cells [.v (qA c.1),.v (qA c.2),.v (qA c.3),.x 10 [],.x 11 [],.x 12 [],.x 13 []] 27,.rowc 67 1 (Int.toNat c.1) (Ct.zero [Value.slice none 0 0]),.rowc 67 1 (Int.toNat c.2) (Ct.zero [Value.slice none 0 0]),.ext false (.s false 2 p.1.length (cRg p.1)),.ext false (.s false 2 p.2.length (cTa p.2)),.ext false (.s false 6 p.3.length (cLk p.3)),.ext false (.s false 7 c.4.length (cN c.4)),.ext false (.s false 1 c.5.length (cI c.5)),.ext false (.s false 2 c.6.length (cL c.6)),.ext false (.s false 2 c.7.length (cK c.7))]))∧((∀ M:Mem,(0:Int)≤c.1∧c.1≤c.1∧(24:Int)*c.1≤(281474976710656:Int)∧c.1≤(9223372036854775807:Int))∧(∀ M:Mem,(0:Int)≤c.2∧c.2≤c.2∧(24:Int)*c.2≤(281474976710656:Int)∧c.2≤(9223372036854775807:Int))∧(∀ M:Mem,0+4≤4)∧K [.at [0,1,0,1,1,1,1],.blk 0,.at [1,1,1,1,1]] (St.mk [(49,.v (qA 0)),(48,.v (qA (↑p.4.length:Int))),(47,.x 0 []),(11,.p 1 0),(10,.v (qA (usN k))),(6,.p 2 0),(5,.p 3 0),(3,.p 4 0)] [.ext false (.s false 1 p.4.length (cT p.4)),.cells [.o 5,.o 6,.v (Value.slice none 0 0),.v (Value.slice none 0 0)] 42,.cells [.v (Value.slice none 0 0),.v (Value.slice none 0 0),.v (Value.slice none 0 0),.v (Value.slice none 0 0)] 42,.cells [.x 7 [],.x 8 [],.x 9 [],.x 0 []] 33,.cells [.v (qA c.1),.v (qA c.2),.v (qA c.3),.x 10 [],.x 11 [],.x 12 [],.x 13 []] 27,.rowc 67 1 (Int.toNat c.1) (Ct.zero [Value.slice none 0 0]),.rowc 67 1 (Int.toNat c.2) (Ct.zero [Value.slice none 0 0]),.ext false (.s false 2 p.1.length (cRg p.1)),.ext false (.s false 2 p.2.length (cTa p.2)),.ext false (.s false 6 p.3.length (cLk p.3)),.ext false (.s false 7 c.4.length (cN c.4)),.ext false (.s false 1 c.5.length (cI c.5)),.ext false (.s false 2 c.6.length (cL c.6)),.ext false (.s false 2 c.7.length (cK c.7))]))∧((∀ M:Mem,(0:Int)≤c.2∧c.2≤c.2∧(24:Int)*c.2≤(281474976710656:Int)∧c.2≤(9223372036854775807:Int))∧(∀ M:Mem,(0:Int)≤c.1∧c.1≤c.1∧(24:Int)*c.1≤(281474976710656:Int)∧c.1≤(9223372036854775807:Int))∧(∀ M:Mem,0+4≤4)∧K [.at [0,1,0,1,1,1,1],.blk 0,.at [1,1,1,1,1]] (St.mk [(49,.v (qA 0)),(48,.v (qA (↑p.4.length:Int))),(47,.x 0 []),(11,.p 1 0),(10,.v (qA (usN k))),(6,.p 2 0),(5,.p 3 0),(3,.p 4 0)] [.ext false (.s false 1 p.4.length (cT p.4)),.cells [.o 5,.o 6,.v (Value.slice none 0 0),.v (Value.slice none 0 0)] 42,.cells [.v (Value.slice none 0 0),.v (Value.slice none 0 0),.v (Value.slice none 0 0),.v (Value.slice none 0 0)] 42,.cells [.x 7 [],.x 8 [],.x 9 [],.x 0 []] 33,.cells [.v (qA c.1),.v (qA c.2),.v (qA c.3),.x 10 [],.x 11 [],.x 12 [],.x 13 []] 27,.rowc 67 1 (Int.toNat c.1) (Ct.zero [Value.slice none 0 0]),.rowc 67 1 (Int.toNat c.2) (Ct.zero [Value.slice none 0 0]),.ext false (.s false 2 p.1.length (cRg p.1)),.ext false (.s false 2 p.2.length (cTa p.2)),.ext false (.s false 6 p.3.length (cLk p.3)),.ext false (.s false 7 c.4.length (cN c.4)),.ext false (.s false 1 c.5.length (cI c.5)),.ext false (.s false 2 c.6.length (cL c.6)),.ext false (.s false 2 c.7.length (cK c.7))]))∧((∀ M:Mem,(0:Int)≤c.2∧c.2≤c.2∧(24:Int)*c.2≤(281474976710656:Int)∧c.2≤(9223372036854775807:Int))∧(∀ M:Mem,(0:Int)≤c.1∧c.1≤c.1∧(24:Int)*c.1≤(281474976710656:Int)∧c.1≤(9223372036854775807:Int))∧(∀ M:Mem,0+4≤4)∧K [.at [0,1,0,1,1,1,1],.blk 0,.at [1,1,1,1,1]] (St.mk [(49,.v (qA 0)),(48,.v (qA (↑p.4.length:Int))),(47,.x 0 []),(11,.p 1 0),(10,.v (qA (usN k))),(6,.p 2 0),(5,.p 3 0),(3,.p 4 0)] [.ext false (.s false 1 p.4.length (cT p.4)),.cells [.o 5,.o 6,.v (Value.slice none 0 0),.v (Value.slice none 0 0)] 42,.cells [.v (Value.slice none 0 0),.v (Value.slice none 0 0),.v (Value.slice none 0 0),.v (Value.slice none 0 0)] 42,.cells [.x 7 [],.x 8 [],.x 9 [],.x 0 []] 33,.cells [.v (qA c.1),.v (qA c.2),.v (qA c.3),.x 10 [],.x 11 [],.x 12 [],.x 13 []] 27,.rowc 67 1 (Int.toNat c.1) (Ct.zero [Value.slice none 0 0]),.rowc 67 1 (Int.toNat c.2) (Ct.zero [Value.slice none 0 0]),.ext false (.s false 2 p.1.length (cRg p.1)),.ext false (.s false 2 p.2.length (cTa p.2)),.ext false (.s false 6 p.3.length (cLk p.3)),.ext false (.s false 7 c.4.length (cN c.4)),.ext false (.s false 1 c.5.length (cI c.5)),.ext false (.s false 2 c.6.length (cL c.6)),.ext false (.s false 2 c.7.length (cK c.7))]))∧((∀ M:Mem,(0:Int)≤c.1∧c.1≤c.1∧(24:Int)*c.1≤(281474976710656:Int)∧c.1≤(9223372036854775807:Int))∧(∀ M:Mem,(0:Int)≤c.2∧c.2≤c.2∧(24:Int)*c.2≤(281474976710656:Int)∧c.2≤(9223372036854775807:Int))∧(∀ M:Mem,0+4≤4)∧K [.at [0,1,0,1,1,1,1],.blk 0,.at [1,1,1,1,1]] (St.mk [(49,.v (qA 0)),(48,.v (qA (↑p.4.length:Int))),(47,.x 0 []),(11,.p 1 0),(10,.v (qA (usN k))),(6,.p 2 0),(5,.p 3 0),(3,.p 4 0)] [.ext false (.s false 1 p.4.length (cT p.4)),.cells [.o 5,.o 6,.v (Value.slice none 0 0),.v (Value.slice none 0 0)] 42,.cells [.v (Value.slice none 0 0),.v (Value.slice none 0 0),.v (Value.slice none 0 0),.v (Value.slice none 0 0)] 42,.cells [.x 7 [],.x 8 [],.x 9 [],.x 0 []] 33,.cells [.v (qA c.1),.v (qA c.2),.v (qA c.3),.x 10 [],.x 11 [],.x 12 [],.x 13 []] 27,.rowc 67 1 (Int.toNat c.1) (Ct.zero [Value.slice none 0 0]),.rowc 67 1 (Int.toNat c.2) (Ct.zero [Value.slice none 0 0]),.ext false (.s false 2 p.1.length (cRg p.1)),.ext false (.s false 2 p.2.length (cTa p.2)),.ext false (.s false 6 p.3.length (cLk p.3)),.ext false (.s false 7 c.4.length (cN c.4)),.ext false (.s false 1 c.5.length (cI c.5)),.ext false (.s false 2 c.6.length (cL c.6)),.ext false (.s false 2 c.7.length (cK c.7))]))∧(∀ M:Mem,(0:Int)≤c.2∧c.2≤c.2∧(24:Int)*c.2≤(281474976710656:Int)∧c.2≤(9223372036854775807:Int))∧(∀ M:Mem,(0:Int)≤c.1∧c.1≤c.1∧(24:Int)*c.1≤(281474976710656:Int)∧c.1≤(9223372036854775807:Int))∧(∀ M:Mem,0+4≤4)∧K [.at [0,1,0,1,1,1,1],.blk 0,.at [1,1,1,1,1]] (St.mk [(49,.v (qA 0)),(48,.v (qA (↑p.4.length:Int))),(47,.x 0 []),(11,.p 1 0),(10,.v (qA (usN k))),(6,.p 2 0),(5,.p 3 0),(3,.p 4 0)] [.ext false (.s false 1 p.4.length (cT p.4)),.cells [.o 5,.o 6,.v (Value.slice none 0 0),.v (Value.slice none 0 0)] 42,.cells [.v (Value.slice none 0 0),.v (Value.slice none 0 0),.v (Value.slice none 0 0),.v (Value.slice none 0 0)] 42,.cells [.x 7 [],.x 8 [],.x 9 [],.x 0 []] 33,.cells [.v (qA c.1),.v (qA c.2),.v (qA c.3),.x 10 [],.x 11 [],.x 12 [],.x 13 []] 27,.rowc 67 1 (Int.toNat c.1) (Ct.zero [Value.slice none 0 0]),.rowc 67 1 (Int.toNat c.2) (Ct.zero [Value.slice none 0 0]),.ext false (.s false 2 p.1.length (cRg p.1)),.ext false (.s false 2 p.2.length (cTa p.2)),.ext false (.s false 6 p.3.length (cLk p.3)),.ext false (.s false 7 c.4.length (cN c.4)),.ext false (.s false 1 c.5.length (cI c.5)),.ext false (.s false 2 c.6.length (cL c.6)),.ext false (.s false 2 c.7.length (cK c.7))])):=by kernel_rfl
theorem FOk.newTz{P:Program}{m0:Nat}{fn:Func}{Q:SV→List HO→Prop}{its:List It}{tm:List (Nat×SV)}{h:List HO}(i:Nat){T0:TypeId}{n:Nat}{c0:Ct}(T1:TypeId)(hi:h[i]?=some (.rowc T0 1 n c0))(hc:∀ k,k<n→c0.at k 0=.v (.slice none 0 0))(hx:zX P m0 fn Q its ⟨zAn i h.length tm,(h.set i .gone++[HO.tbl T0 T1 4 (List.replicate n ([]:List Nat)).length (tC (List.replicate n [])) none]).map (qNn i h.length)⟩):zX P m0 fn Q its ⟨tm,h⟩:=by
 refine FOk.newTn i T1 4 (cE []) hi hc ?_
 rw[List.length_replicate,qWc] at hx
 exact hx
theorem zYu:Tryz.f12.body.isSome=true:=by kernel_rfl
theorem zXq(c:Cir)(k:Int):Nat.ble ([.agg [.v (.int .i64 c.fx),.v (.int .i64 c.ad),.v (.int .i64 c.ins),.x 0 [],.x 1 [],.x 2 [],.x 3 []],.v (.int .i64 k),.agg [.x 4 [],.x 5 [],.x 6 [],.x 7 []]]:List SV).length Tryz.f12.ntmps=true:=by kernel_rfl
theorem qGx(c:Cir)(hc:c.ok)(p:Pln)(hp:p.ok)(k:Int)(Q:SV→List HO→Prop)(h1:yT c k p≠0→Q (SV.tup [SV.agg [SV.v (Value.slice none 0 0),SV.v (Value.slice none 0 0),SV.v (Value.slice none 0 0),SV.v (Value.slice none 0 0)],SV.v (Value.slice none 0 0),SV.v (qA (yT c k p))]) [])(h2:yT c k p=0→xW (usN k) p.tb (List.replicate (Int.toNat c.1) ([]:List Nat))=none→Q (SV.tup [SV.agg [SV.v (Value.slice none 0 0),SV.v (Value.slice none 0 0),SV.v (Value.slice none 0 0),SV.v (Value.slice none 0 0)],SV.v (Value.slice none 0 0),SV.v (qA (141:Int))]) [])(h3:∀ lF,yT c k p=0→xW (usN k) p.tb (List.replicate (Int.toNat c.1) ([]:List Nat))=some lF→yQ (usN k) p.rg [] [] lF (List.replicate (Int.toNat c.2) ([]:List Nat)) []=none→Q (SV.tup [SV.agg [SV.v (Value.slice none 0 0),SV.v (Value.slice none 0 0),SV.v (Value.slice none 0 0),SV.v (Value.slice none 0 0)],SV.v (Value.slice none 0 0),SV.v (qA (141:Int))]) [])(h4:∀ lF z,yT c k p=0→xW (usN k) p.tb (List.replicate (Int.toNat c.1) ([]:List Nat))=some lF→yQ (usN k) p.rg [] [] lF (List.replicate (Int.toNat c.2) ([]:List Nat)) []=some z→Q (SV.tup [SV.agg [SV.x 0 [],SV.x 1 [],SV.x 2 [],SV.o 3],SV.x 4 [],SV.v (qA (0:Int))]) [HO.ext false (qB.s false 1 z.1.length (cT z.1)),HO.ext false (qB.s false 1 z.2.1.length (cT z.2.1)),HO.ext false (qB.s false 1 p.is.length (cT p.is)),HO.rowc 101 4 (yR z.2.2 p.lk).length (Ct.fn (cP (yR z.2.2 p.lk))),HO.ext false (qB.s false 1 z.2.2.length (cI z.2.2))]):qI Tryz.prog 12 [.agg [.v (.int .i64 c.fx),.v (.int .i64 c.ad),.v (.int .i64 c.ins),.x 0 [],.x 1 [],.x 2 [],.x 3 []],.v (.int .i64 k),.agg [.x 4 [],.x 5 [],.x 6 [],.x 7 []]] [.ext false (.s false 7 c.4.length (cN c.4)),.ext false (.s false 1 c.5.length (cI c.5)),.ext false (.s false 2 c.6.length (cL c.6)),.ext false (.s false 2 c.7.length (cK c.7)),.ext false (.s false 2 p.1.length (cRg p.1)),.ext false (.s false 2 p.2.length (cTa p.2)),.ext false (.s false 6 p.3.length (cLk p.3)),.ext false (.s false 1 p.4.length (cT p.4))] Q:=by
 refine qL Tryz.func12 zYu (zXq c k) ?_
 refine qC hm 60 ((zVb c p k _ _).mpr ⟨?_⟩)
 refine jX c hc p hp ?_
 rw[qV,zC]
 refine qG (fun h0=>?_) (fun h0=>aI (h1 h0))
 obtain⟨hck,hk3,hk5,hr⟩:=qIi h0
 have hR:=qFy hr
 have hub:=zIt hk5
 have hcn:=of_decide_eq_true (qKe hck)
 have hcn1:=hcn.1
 have hcn2:=hcn.2.1
 have fin:FOk Tryz.prog Tryz.f12 Q (.at [0,1,0,1,1,1,1]::[.blk 0,.at [1,1,1,1,1]]) (St.mk [(49,SV.v (qA (0:Int))),(48,SV.v (qA (↑(List.length p.4):Int))),(47,SV.x 0 []),(11,SV.p 1 0),(10,SV.v (qA (usN k))),(6,SV.p 2 0),(5,SV.p 3 0),(3,SV.p 4 0)] [HO.ext false (qB.s false 1 (List.length p.4) (cT p.4)),HO.cells [SV.o 5,SV.o 6,SV.v (Value.slice none 0 0),SV.v (Value.slice none 0 0)] 42,HO.cells [SV.v (Value.slice none 0 0),SV.v (Value.slice none 0 0),SV.v (Value.slice none 0 0),SV.v (Value.slice none 0 0)] 42,HO.cells [SV.x 7 [],SV.x 8 [],SV.x 9 [],SV.x 0 []] 33,HO.cells [SV.v (qA c.1),SV.v (qA c.2),SV.v (qA c.3),SV.x 10 [],SV.x 11 [],SV.x 12 [],SV.x 13 []] 27,HO.rowc 67 1 (Int.toNat c.1) (Ct.zero [Value.slice none 0 0]),HO.rowc 67 1 (Int.toNat c.2) (Ct.zero [Value.slice none 0 0]),HO.ext false (qB.s false 2 (List.length p.1) (cRg p.1)),HO.ext false (qB.s false 2 (List.length p.2) (cTa p.2)),HO.ext false (qB.s false 6 (List.length p.3) (cLk p.3)),HO.ext false (qB.s false 7 (List.length c.4) (cN c.4)),HO.ext false (qB.s false 1 (List.length c.5) (cI c.5)),HO.ext false (qB.s false 2 (List.length c.6) (cL c.6)),HO.ext false (qB.s false 2 (List.length c.7) (cK c.7))]):=by
  refine FOk.newTz 5 53 rfl (fun _ _=>rfl) ?_
  refine FOk.newTz 6 53 rfl (fun _ _=>rfl) ?_
  refine FOk.nilC 1 2 67 1 rfl rfl ?_
  refine FOk.nilC 1 3 101 4 rfl rfl ?_
  refine FOk.norm (ks:=[49,48,47,11,10,6,5,3]) (nl:=[]) (st':=(St.mk [(49,SV.v (qA (0:Int))),(48,SV.v (qA (↑(List.length p.4):Int))),(47,SV.x 0 []),(11,SV.p 1 0),(10,SV.v (qA (usN k))),(6,SV.p 2 0),(5,SV.p 3 0),(3,SV.p 4 0)] [HO.ext false (qB.s false 1 (List.length p.4) (cT p.4)),HO.cells [SV.o 5,SV.o 6,SV.o 7,SV.o 8] 42,HO.cells [SV.v (Value.slice none 0 0),SV.v (Value.slice none 0 0),SV.v (Value.slice none 0 0),SV.v (Value.slice none 0 0)] 42,HO.cells [SV.x 9 [],SV.x 10 [],SV.x 11 [],SV.x 0 []] 33,HO.cells [SV.v (qA c.1),SV.v (qA c.2),SV.v (qA c.3),SV.x 12 [],SV.x 13 [],SV.x 14 [],SV.x 15 []] 27,HO.tbl 67 53 4 (List.replicate (Int.toNat c.1) ([]:List Nat)).length (tC (List.replicate (Int.toNat c.1) ([]:List Nat))) none,HO.tbl 67 53 4 (List.replicate (Int.toNat c.2) ([]:List Nat)).length (tC (List.replicate (Int.toNat c.2) ([]:List Nat))) none,HO.rowc 67 1 0 (Ct.lit 1 []),HO.rowc 101 4 0 (Ct.lit 1 []),HO.ext false (qB.s false 2 (List.length p.1) (cRg p.1)),HO.ext false (qB.s false 2 (List.length p.2) (cTa p.2)),HO.ext false (qB.s false 6 (List.length p.3) (cLk p.3)),HO.ext false (qB.s false 7 (List.length c.4) (cN c.4)),HO.ext false (qB.s false 1 (List.length c.5) (cI c.5)),HO.ext false (qB.s false 2 (List.length c.6) (cL c.6)),HO.ext false (qB.s false 2 (List.length c.7) (cK c.7))])) (by kernel_rfl) ?_
  refine FOk.loop (p.is.length+1) (by kernel_rfl) ?_
  refine FOk.cv (qOg c p hp k (usN k) (tC (List.replicate (Int.toNat c.1) ([]:List Nat))) (tC (List.replicate (Int.toNat c.2) ([]:List Nat))) (List.replicate (Int.toNat c.1) ([]:List Nat)).length (List.replicate (Int.toNat c.2) ([]:List Nat)).length Q ?_ p.is.length 0 [] (by omega) rfl) ⟨HE.refl _,HE.refl _,HE.refl _,HE.refl _,HE.refl _,HE.refl _,HE.refl _,⟨rfl,rfl,rfl,fun k hk=>absurd hk (Nat.not_lt_zero k)⟩,HE.refl _,HE.refl _,HE.refl _,HE.refl _,HE.refl _,HE.refl _,HE.refl _,HE.refl _,trivial⟩
  refine FOk.loop (p.tb.length+1) (by kernel_rfl) ?_
  refine qPd c p hp k (usN k) hR (tC (List.replicate (Int.toNat c.2) ([]:List Nat))) (List.replicate (Int.toNat c.2) ([]:List Nat)).length p.is.length p.is (by omega) Q p.tb.length 0 (List.replicate (Int.toNat c.1) ([]:List Nat)) (by omega) (by rw[List.length_replicate]) (h2 h0) (fun lF' hlF hlen=>?_)
  refine FOk.nilC 1 0 3 1 rfl rfl ?_
  refine FOk.norm (ks:=[93,92,91,18,17,16,11,10,6,5,3]) (nl:=[]) (st':=(St.mk [(93,SV.v (qA (0:Int))),(92,SV.v (qA (↑(List.length p.1):Int))),(91,SV.x 0 []),(18,SV.p 1 0),(17,SV.m 2),(16,SV.m 3),(11,SV.p 4 0),(10,SV.v (qA (usN k))),(6,SV.p 5 0),(5,SV.p 6 0),(3,SV.p 7 0)] [HO.ext false (qB.s false 2 (List.length p.1) (cRg p.1)),HO.cells [SV.o 8] 23,HO.mp true [IntKind.i64,IntKind.i64] [] (Mc.ints IntKind.u64 []),HO.mp false [IntKind.i64] [[(2:Int)],[(3:Int)]] (Mc.svs [SV.o 9,SV.o 10]),HO.cells [SV.o 9,SV.o 10,SV.o 11,SV.o 12] 42,HO.cells [SV.v (Value.slice none 0 0),SV.v (Value.slice none 0 0),SV.v (Value.slice none 0 0),SV.v (Value.slice none 0 0)] 42,HO.cells [SV.x 0 [],SV.x 13 [],SV.x 14 [],SV.x 15 []] 33,HO.cells [SV.v (qA c.1),SV.v (qA c.2),SV.v (qA c.3),SV.x 16 [],SV.x 17 [],SV.x 18 [],SV.x 19 []] 27,HO.rowc 3 1 0 (Ct.lit 1 []),HO.tbl 67 53 4 lF'.length (tC lF') none,HO.tbl 67 53 4 (List.replicate (Int.toNat c.2) ([]:List Nat)).length (tC (List.replicate (Int.toNat c.2) ([]:List Nat))) none,HO.rowc 67 1 p.is.length (Ct.fn (cT p.is)),HO.rowc 101 4 0 (Ct.lit 1 []),HO.ext false (qB.s false 2 (List.length p.2) (cTa p.2)),HO.ext false (qB.s false 6 (List.length p.3) (cLk p.3)),HO.ext false (qB.s false 1 (List.length p.4) (cT p.4)),HO.ext false (qB.s false 7 (List.length c.4) (cN c.4)),HO.ext false (qB.s false 1 (List.length c.5) (cI c.5)),HO.ext false (qB.s false 2 (List.length c.6) (cL c.6)),HO.ext false (qB.s false 2 (List.length c.7) (cK c.7))])) (by kernel_rfl) ?_
  refine FOk.loop (p.rg.length+1) (by kernel_rfl) ?_
  refine FOk.cv (qNs c p hp k (usN k) hR hub.1 (by omega) p.is p.is.length Q p.rg.length 0 [] [] lF' (List.replicate (Int.toNat c.2) ([]:List Nat)) [] (by omega) rfl hlen (by rw[List.length_replicate]) (qJq _ _ _ hlF (qAf _ hub.1)) (qAf _ hub.1) rfl (h3 lF' h0 hlF) (fun z hz=>?_)) ⟨HE.refl _,HE.refl _,HE.refl _,HE.refl _,HE.refl _,HE.refl _,HE.refl _,HE.refl _,⟨rfl,rfl,rfl,fun k hk=>absurd hk (Nat.not_lt_zero k)⟩,HE.refl _,HE.refl _,HE.refl _,HE.refl _,HE.refl _,HE.refl _,HE.refl _,HE.refl _,HE.refl _,HE.refl _,HE.refl _,trivial⟩
  obtain⟨z1,z2,z3⟩:=qIo _ _ _ _ _ _ _ hz (fun s hs=>by cases hs) (fun r hr=>(hR.r r hr).w)
  refine FOk.frzTb 7 rfl ?_
  refine FOk.frzTb 8 rfl ?_
  refine FOk.frzH 9 rfl ?_
  refine FOk.frzH 6 rfl ?_
  refine FOk.norm (ks:=[144,143,142,26,18,11,6,5,3]) (nl:=[]) (st':=(St.mk [(144,SV.v (qA (0:Int))),(143,SV.v (qA (↑(List.length p.3):Int))),(142,SV.x 0 []),(26,SV.fn (Fn.func 46) [] [SV.p 1 0]),(18,SV.p 1 0),(11,SV.p 2 0),(6,SV.p 3 0),(5,SV.p 4 0),(3,SV.p 5 0)] [HO.ext false (qB.s false 6 (List.length p.3) (cLk p.3)),HO.cells [SV.x 6 []] 23,HO.cells [SV.x 7 [],SV.x 8 [],SV.x 9 [],SV.o 10] 42,HO.cells [SV.v (Value.slice none 0 0),SV.v (Value.slice none 0 0),SV.v (Value.slice none 0 0),SV.v (Value.slice none 0 0)] 42,HO.cells [SV.x 11 [],SV.x 12 [],SV.x 0 [],SV.x 13 []] 33,HO.cells [SV.v (qA c.1),SV.v (qA c.2),SV.v (qA c.3),SV.x 14 [],SV.x 15 [],SV.x 16 [],SV.x 17 []] 27,HO.ext false (qB.s false 1 z.2.2.length (cI z.2.2)),HO.ext false (qB.s false 1 (List.length z.1) (cT z.1)),HO.ext false (qB.s false 1 (List.length z.2.1) (cT z.2.1)),HO.ext false (qB.s false 1 p.is.length (cT p.is)),HO.rowc 101 4 0 (Ct.lit 1 []),HO.ext false (qB.s false 2 (List.length p.1) (cRg p.1)),HO.ext false (qB.s false 2 (List.length p.2) (cTa p.2)),HO.ext false (qB.s false 1 (List.length p.4) (cT p.4)),HO.ext false (qB.s false 7 (List.length c.4) (cN c.4)),HO.ext false (qB.s false 1 (List.length c.5) (cI c.5)),HO.ext false (qB.s false 2 (List.length c.6) (cL c.6)),HO.ext false (qB.s false 2 (List.length c.7) (cK c.7))])) (by kernel_rfl) ?_
  refine FOk.loop (p.lk.length+1) (by kernel_rfl) ?_
  exact FOk.cv (qPi c p k (usN k) hR hub.1 (by omega) z.1 z.2.1 z.2.2 (by rw[z1]; exact Nat.zero_add _) z2 z3 Q (h4 lF' z h0 hlF hz) p.lk.length 0 [] (by omega) rfl) ⟨HE.refl _,HE.refl _,HE.refl _,HE.refl _,HE.refl _,HE.refl _,HE.refl _,HE.refl _,HE.refl _,HE.refl _,⟨rfl,rfl,rfl,fun k hk=>absurd hk (Nat.not_lt_zero k)⟩,HE.refl _,HE.refl _,HE.refl _,HE.refl _,HE.refl _,HE.refl _,HE.refl _,trivial⟩
 repeat' (first | refine And.intro (fun _=>by omega) ?_ | refine And.intro ?_ ?_)
 all_goals exact fin
theorem qWs(c:Cir)(hc:c.ok)(p:Pln)(hp:p.ok)(k:Int)(Q:SV→List HO→Prop)(h1:(qZ c k p).2≠0→Q (SV.tup [SV.agg [SV.v (Value.slice none 0 0),SV.v (Value.slice none 0 0),SV.v (Value.slice none 0 0),SV.v (Value.slice none 0 0)],SV.v (Value.slice none 0 0),SV.v (qA (qZ c k p).2)]) [])(h2:(qZ c k p).2=0→Q (SV.tup [SV.agg [SV.x 0 [],SV.x 1 [],SV.x 2 [],SV.x 3 []],SV.x 4 [],SV.v (qA (0:Int))]) [HO.ext false (qB.s false 1 (qZ c k p).1.1.fx.length (cT (qZ c k p).1.1.fx)),HO.ext false (qB.s false 1 (qZ c k p).1.1.ad.length (cT (qZ c k p).1.1.ad)),HO.ext false (qB.s false 1 (qZ c k p).1.1.is.length (cT (qZ c k p).1.1.is)),HO.ext false (qB.s false 4 (qZ c k p).1.1.cp.length (cP (qZ c k p).1.1.cp)),HO.ext false (qB.s false 1 (qZ c k p).1.2.length (cI (qZ c k p).1.2))]):qI Tryz.prog 12 [.agg [.v (.int .i64 c.fx),.v (.int .i64 c.ad),.v (.int .i64 c.ins),.x 0 [],.x 1 [],.x 2 [],.x 3 []],.v (.int .i64 k),.agg [.x 4 [],.x 5 [],.x 6 [],.x 7 []]] [.ext false (.s false 7 c.4.length (cN c.4)),.ext false (.s false 1 c.5.length (cI c.5)),.ext false (.s false 2 c.6.length (cL c.6)),.ext false (.s false 2 c.7.length (cK c.7)),.ext false (.s false 2 p.1.length (cRg p.1)),.ext false (.s false 2 p.2.length (cTa p.2)),.ext false (.s false 6 p.3.length (cLk p.3)),.ext false (.s false 1 p.4.length (cT p.4))] Q:=by
 by_cases e0:yT c k p=0
 ·cases e1:xW (usN k) p.tb (List.replicate (Int.toNat c.1) ([]:List Nat)) with
  | none =>
   have e:(qZ c k p)=((qFd,[]),141):=by rw[qZ,if_neg (fun h=>h e0),e1]
   rw[e] at h1
   exact qGx c hc p hp k Q (fun h=>absurd e0 h) (fun _ _=>h1 (by decide)) (fun lF _ h=>by rw[e1] at h; cases h) (fun lF z _ h=>by rw[e1] at h; cases h)
  | some lF =>
   cases e2:yQ (usN k) p.rg [] [] lF (List.replicate (Int.toNat c.2) ([]:List Nat)) [] with
   | none =>
    have e:(qZ c k p)=((qFd,[]),141):=by rw[qZ,if_neg (fun h=>h e0),e1]; show(match yQ (usN k) p.rg [] [] lF (List.replicate (Int.toNat c.2) ([]:List Nat)) [] with | none=>_ | some z=>_)=_; rw[e2]
    rw[e] at h1
    refine qGx c hc p hp k Q (fun h=>absurd e0 h) (fun _ h=>by rw[e1] at h; cases h) (fun lF _ _ _=>h1 (by decide)) (fun lF' z _ h g=>?_)
    rw[e1] at h; cases h
    rw[e2] at g; cases g
   | some z =>
    have e:(qZ c k p)=((⟨z.1,z.2.1,p.is,yR z.2.2 p.lk⟩,z.2.2),0):=by rw[qZ,if_neg (fun h=>h e0),e1]; show(match yQ (usN k) p.rg [] [] lF (List.replicate (Int.toNat c.2) ([]:List Nat)) [] with | none=>_ | some z=>_)=_; rw[e2]
    rw[e] at h2
    refine qI.mono (qI.gc (r1:=(SV.tup [SV.agg [SV.x 0 [],SV.x 1 [],SV.x 2 [],SV.x 3 []],SV.x 4 [],SV.v (qA (0:Int))])) (h1:=[HO.ext false (qB.s false 1 z.1.length (cT z.1)),HO.ext false (qB.s false 1 z.2.1.length (cT z.2.1)),HO.ext false (qB.s false 1 p.is.length (cT p.is)),HO.ext false (qB.s false 4 (yR z.2.2 p.lk).length (cP (yR z.2.2 p.lk))),HO.ext false (qB.s false 1 z.2.2.length (cI z.2.2))]) (by kernel_rfl) (qI.frz1 (r0:=(SV.tup [SV.agg [SV.x 0 [],SV.x 1 [],SV.x 2 [],SV.o 3],SV.x 4 [],SV.v (qA (0:Int))])) (h0:=[HO.ext false (qB.s false 1 z.1.length (cT z.1)),HO.ext false (qB.s false 1 z.2.1.length (cT z.2.1)),HO.ext false (qB.s false 1 p.is.length (cT p.is)),HO.rowc 101 4 (yR z.2.2 p.lk).length (Ct.fn (cP (yR z.2.2 p.lk))),HO.ext false (qB.s false 1 z.2.2.length (cI z.2.2))]) 3 rfl (qGx c hc p hp k _ (fun h=>absurd e0 h) (fun _ h=>by rw[e1] at h; cases h) (fun lF' _ h g=>?_) (fun lF' z' _ h g=>?_)))) (fun r h hh=>by rw[hh.1,hh.2]; exact h2 rfl)
    ·rw[e1] at h; cases h
     rw[e2] at g; cases g
    ·rw[e1] at h; cases h
     rw[e2] at g; cases g
     exact⟨rfl,rfl⟩
 ·have e:(qZ c k p)=((qFd,[]),yT c k p):=by rw[qZ,if_pos e0]
  rw[e] at h1
  exact qGx c hc p hp k Q (fun h=>h1 h) (fun h=>absurd h e0) (fun _ h=>absurd h e0) (fun _ _ h=>absurd h e0)
noncomputable def qXf:List SV→List HO→Option ((SV→List HO→Prop)→Prop)
 | [.agg [.v (.int .i64 fx),.v (.int .i64 ad),.v (.int .i64 ins),.x 0 [],.x 1 [],.x 2 [],.x 3 []],.v (.int .i64 k),.agg [.x 4 [],.x 5 [],.x 6 [],.x 7 []]],[.ext false (.s false 7 n0 c0),.ext false (.s false 1 n1 c1),.ext false (.s false 2 n2 c2),.ext false (.s false 2 n3 c3),.ext false (.s false 2 m0 d0),.ext false (.s false 2 m1 d1),.ext false (.s false 6 m2 d2),.ext false (.s false 1 m3 d3)] =>
  some fun Q=>lLy fx ad ins k n0 n1 n2 n3 m0 m1 m2 m3 c0 c1 c2 c3 d0 d1 d2 d3 (fun e=>Q (SV.tup [SV.agg [SV.v (Value.slice none 0 0),SV.v (Value.slice none 0 0),SV.v (Value.slice none 0 0),SV.v (Value.slice none 0 0)],SV.v (Value.slice none 0 0),SV.v (.int .i64 e)]) []) (fun s ss=>Q (SV.tup [SV.agg [SV.x 0 [],SV.x 1 [],SV.x 2 [],SV.x 3 []],SV.x 4 [],SV.v (qA (0:Int))]) [HO.ext false (qB.s false 1 s.fx.length (cT s.fx)),HO.ext false (qB.s false 1 s.ad.length (cT s.ad)),HO.ext false (qB.s false 1 s.is.length (cT s.is)),HO.ext false (qB.s false 4 s.cp.length (cP s.cp)),HO.ext false (qB.s false 1 ss.length (cI ss))])
 | _,_=>none
theorem qHe(args:List SV)(h:List HO)(tr:(SV→List HO→Prop)→Prop)(Q:SV→List HO→Prop)(hc:qXf args h=some tr)(ht:tr Q):qI Tryz.prog 12 args h Q:=by
 unfold qXf at hc
 split at hc
 ·simp only[sI] at hc
  subst hc
  obtain⟨c,rfl,rfl,rfl,⟨rfl,e0⟩,⟨rfl,e1⟩,⟨rfl,e2⟩,⟨rfl,e3⟩,hk,ht2⟩:=ht.h.h.h
  obtain⟨p,⟨rfl,e4⟩,⟨rfl,e5⟩,⟨rfl,e6⟩,⟨rfl,e7⟩,hp,hq⟩:=ht2.h
  exact qI.ac (qWs c hk p hp _ Q hq.1 hq.2) ⟨⟨rfl,rfl,rfl,rfl,e0⟩,⟨rfl,rfl,rfl,rfl,e1⟩,⟨rfl,rfl,rfl,rfl,e2⟩,⟨rfl,rfl,rfl,rfl,e3⟩,⟨rfl,rfl,rfl,rfl,e4⟩,⟨rfl,rfl,rfl,rfl,e5⟩,⟨rfl,rfl,rfl,rfl,e6⟩,⟨rfl,rfl,rfl,rfl,e7⟩,trivial⟩
 ·cases hc
noncomputable def zAl:Con Tryz.prog:=zJp.add 12 qXf qHe
end Go.Proofs.YtlmjdcbhpffanaaGreat
/- Layout of circuits and plans with nil slices. -/
namespace Go.Proofs.YtlmjdcbhpffanaaGreat
open Go.Sx Go.Pl
set_option linter.unusedVariables false
set_option maxRecDepth 100000
noncomputable def orL(g1 g2:List SV→List HO→Option ((SV→List HO→Prop)→Prop)):List SV→List HO→Option ((SV→List HO→Prop)→Prop):=fun args h=>match g1 args h with
 | some t=>some t
 | none=>g2 args h
theorem zEp{f:FuncId}{g1 g2:List SV→List HO→Option ((SV→List HO→Prop)→Prop)}(h1:∀ args h tr Q,g1 args h=some tr→tr Q→qI Tryz.prog f args h Q)(h2:∀ args h tr Q,g2 args h=some tr→tr Q→qI Tryz.prog f args h Q):∀ args h tr Q,orL g1 g2 args h=some tr→tr Q→qI Tryz.prog f args h Q:=by
 intro args h tr Q hc ht
 unfold orL at hc
 split at hc
 ·rename_i t e
  cases hc
  exact h1 args h _ Q e ht
 ·exact h2 args h tr Q hc ht
theorem zHq(c:Cir)(hc:c.ok)(p:Pln)(hp:p.ok)(k:Int)(e6:p.3=[])(Q:SV→List HO→Prop)(h1:(qZ c k p).2≠0→Q (.tup [.agg [.v (.slice none 0 0),.v (.slice none 0 0),.v (.slice none 0 0),.v (.slice none 0 0)],.v (.slice none 0 0),.v (.int .i64 (qZ c k p).2)]) [])(h2:(qZ c k p).2=0→Q (.tup [.agg [.x 0 [],.x 1 [],.x 2 [],.x 3 []],.x 4 [],.v (.int .i64 0)]) [.ext false (.s false 1 (qZ c k p).1.1.fx.length (cT (qZ c k p).1.1.fx)),.ext false (.s false 1 (qZ c k p).1.1.ad.length (cT (qZ c k p).1.1.ad)),.ext false (.s false 1 (qZ c k p).1.1.is.length (cT (qZ c k p).1.1.is)),.ext false (.s false 4 (qZ c k p).1.1.cp.length (cP (qZ c k p).1.1.cp)),.ext false (.s false 1 (qZ c k p).1.2.length (cI (qZ c k p).1.2))]):qI Tryz.prog 12 [.agg [.v (.int .i64 c.fx),.v (.int .i64 c.ad),.v (.int .i64 c.ins),.x 0 [],.x 1 [],.x 2 [],.x 3 []],.v (.int .i64 k),.agg [.x 4 [],.x 5 [],.v (.slice none 0 0),.x 6 []]] [.ext false (.s false 7 c.4.length (cN c.4)),.ext false (.s false 1 c.5.length (cI c.5)),.ext false (.s false 2 c.6.length (cL c.6)),.ext false (.s false 2 c.7.length (cK c.7)),.ext false (.s false 2 p.1.length (cRg p.1)),.ext false (.s false 2 p.2.length (cTa p.2)),.ext false (.s false 1 p.4.length (cT p.4))] Q:=by
 have hs2:∀(e e0:Env) (n:Nat),zD n e0 e→∀ i,i<n→e.val i []=e0.val i []:=fun e e0 n ag i hi=>by rw[(ag.1 i hi).2.2]
 refine qI.nilX (args':=[.agg [.v (.int .i64 c.fx),.v (.int .i64 c.ad),.v (.int .i64 c.ins),.x 0 [],.x 1 [],.x 2 [],.x 3 []],.v (.int .i64 k),.agg [.x 4 [],.x 5 [],.x 7 [],.x 6 []]]) 6 (cLk p.3) ?_ ?_ ?_
 ·simp [wsL,ws]
 ·intro e e0 hv ag
  simp only[List.length_cons,List.length_nil] at hv ag
  simp [qN,den,hv,hs2 e e0 _ ag 0 (by omega),hs2 e e0 _ ag 1 (by omega),hs2 e e0 _ ag 2 (by omega),hs2 e e0 _ ag 3 (by omega),hs2 e e0 _ ag 4 (by omega),hs2 e e0 _ ag 5 (by omega),hs2 e e0 _ ag 6 (by omega)]
 refine qI.gcA (args':=[.agg [.v (.int .i64 c.fx),.v (.int .i64 c.ad),.v (.int .i64 c.ins),.x 0 [],.x 1 [],.x 2 [],.x 3 []],.v (.int .i64 k),.agg [.x 4 [],.x 5 [],.x 6 [],.x 7 []]]) (h':=[.ext false (.s false 7 c.4.length (cN c.4)),.ext false (.s false 1 c.5.length (cI c.5)),.ext false (.s false 2 c.6.length (cL c.6)),.ext false (.s false 2 c.7.length (cK c.7)),.ext false (.s false 2 p.1.length (cRg p.1)),.ext false (.s false 2 p.2.length (cTa p.2)),.ext false (.s false 6 0 (cLk p.3)),.ext false (.s false 1 p.4.length (cT p.4))]) [0,1,2,3,4,5,7,6] (by kernel_rfl) (by kernel_rfl) (by kernel_rfl) ?_
 have:=qWs c hc p hp k Q h1 h2
 rw[e6] at this
 rw[e6]
 exact this
noncomputable def qXb:List SV→List HO→Option ((SV→List HO→Prop)→Prop)
 | [.agg [.v (.int .i64 fx),.v (.int .i64 ad),.v (.int .i64 ins),.x 0 [],.x 1 [],.x 2 [],.x 3 []],.v (.int .i64 k),.agg [.x 4 [],.x 5 [],.v (.slice none 0 0),.x 6 []]],[.ext false (.s false 7 n0 c0),.ext false (.s false 1 n1 c1),.ext false (.s false 2 n2 c2),.ext false (.s false 2 n3 c3),.ext false (.s false 2 m0 d0),.ext false (.s false 2 m1 d1),.ext false (.s false 1 m3 d3)]=>some fun Q=>lLy fx ad ins k n0 n1 n2 n3 m0 m1 0 m3 c0 c1 c2 c3 d0 d1 (cLk []) d3 (fun e=>Q (.tup [.agg [.v (.slice none 0 0),.v (.slice none 0 0),.v (.slice none 0 0),.v (.slice none 0 0)],.v (.slice none 0 0),.v (.int .i64 e)]) []) (fun s ss=>Q (.tup [.agg [.x 0 [],.x 1 [],.x 2 [],.x 3 []],.x 4 [],.v (.int .i64 0)]) [.ext false (.s false 1 s.fx.length (cT s.fx)),.ext false (.s false 1 s.ad.length (cT s.ad)),.ext false (.s false 1 s.is.length (cT s.is)),.ext false (.s false 4 s.cp.length (cP s.cp)),.ext false (.s false 1 ss.length (cI ss))])
 | _,_=>none
theorem zAr(args:List SV)(h:List HO)(tr:(SV→List HO→Prop)→Prop)(Q:SV→List HO→Prop)(hc:qXb args h=some tr)(ht:tr Q):qI Tryz.prog 12 args h Q:=by
 unfold qXb at hc
 split at hc
 ·simp only[sI] at hc
  subst hc
  obtain⟨c,rfl,rfl,rfl,⟨rfl,e0⟩,⟨rfl,e1⟩,⟨rfl,e2⟩,⟨rfl,e3⟩,hk,ht2⟩:=ht.h.h.h
  obtain⟨p,⟨rfl,e4⟩,⟨rfl,e5⟩,⟨z6,e6⟩,⟨rfl,e7⟩,hp,hq⟩:=ht2.h
  exact qI.ac (zHq c hk p hp _ (List.eq_nil_of_length_eq_zero z6.symm) Q hq.1 hq.2) ⟨⟨rfl,rfl,rfl,rfl,e0⟩,⟨rfl,rfl,rfl,rfl,e1⟩,⟨rfl,rfl,rfl,rfl,e2⟩,⟨rfl,rfl,rfl,rfl,e3⟩,⟨rfl,rfl,rfl,rfl,e4⟩,⟨rfl,rfl,rfl,rfl,e5⟩,⟨rfl,rfl,rfl,rfl,e7⟩,trivial⟩
 ·cases hc
theorem zGr(c:Cir)(hc:c.ok)(p:Pln)(hp:p.ok)(k:Int)(e0:c.4=[])(e1:c.5=[])(e2:c.6=[])(e3:c.7=[])(e5:p.2=[])(e6:p.3=[])(e7:p.4=[])(Q:SV→List HO→Prop)(h1:(qZ c k p).2≠0→Q (.tup [.agg [.v (.slice none 0 0),.v (.slice none 0 0),.v (.slice none 0 0),.v (.slice none 0 0)],.v (.slice none 0 0),.v (.int .i64 (qZ c k p).2)]) [])(h2:(qZ c k p).2=0→Q (.tup [.agg [.x 0 [],.x 1 [],.x 2 [],.x 3 []],.x 4 [],.v (.int .i64 0)]) [.ext false (.s false 1 (qZ c k p).1.1.fx.length (cT (qZ c k p).1.1.fx)),.ext false (.s false 1 (qZ c k p).1.1.ad.length (cT (qZ c k p).1.1.ad)),.ext false (.s false 1 (qZ c k p).1.1.is.length (cT (qZ c k p).1.1.is)),.ext false (.s false 4 (qZ c k p).1.1.cp.length (cP (qZ c k p).1.1.cp)),.ext false (.s false 1 (qZ c k p).1.2.length (cI (qZ c k p).1.2))]):qI Tryz.prog 12 [.agg [.v (.int .i64 c.fx),.v (.int .i64 c.ad),.v (.int .i64 c.ins),.v (.slice none 0 0),.v (.slice none 0 0),.v (.slice none 0 0),.v (.slice none 0 0)],.v (.int .i64 k),.agg [.x 0 [],.v (.slice none 0 0),.v (.slice none 0 0),.v (.slice none 0 0)]] [.ext false (.s false 2 p.1.length (cRg p.1))] Q:=by
 have hs2:∀(e e0:Env) (n:Nat),zD n e0 e→∀ i,i<n→e.val i []=e0.val i []:=fun e e0 n ag i hi=>by rw[(ag.1 i hi).2.2]
 refine qI.nilX (args':=[.agg [.v (.int .i64 c.fx),.v (.int .i64 c.ad),.v (.int .i64 c.ins),.x 1 [],.v (.slice none 0 0),.v (.slice none 0 0),.v (.slice none 0 0)],.v (.int .i64 k),.agg [.x 0 [],.v (.slice none 0 0),.v (.slice none 0 0),.v (.slice none 0 0)]]) 7 (cN c.4) ?_ ?_ ?_
 ·simp [wsL,ws]
 ·intro e e0 hv ag
  simp only[List.length_cons,List.length_nil] at hv ag
  simp [qN,den,hv,hs2 e e0 _ ag 0 (by omega)]
 refine qI.nilX (args':=[.agg [.v (.int .i64 c.fx),.v (.int .i64 c.ad),.v (.int .i64 c.ins),.x 1 [],.x 2 [],.v (.slice none 0 0),.v (.slice none 0 0)],.v (.int .i64 k),.agg [.x 0 [],.v (.slice none 0 0),.v (.slice none 0 0),.v (.slice none 0 0)]]) 1 (cI c.5) ?_ ?_ ?_
 ·simp [wsL,ws]
 ·intro e e0 hv ag
  simp only[List.length_cons,List.length_nil,List.length_append] at hv ag
  simp [qN,den,hv,hs2 e e0 _ ag 0 (by omega),hs2 e e0 _ ag 1 (by omega)]
 refine qI.nilX (args':=[.agg [.v (.int .i64 c.fx),.v (.int .i64 c.ad),.v (.int .i64 c.ins),.x 1 [],.x 2 [],.x 3 [],.v (.slice none 0 0)],.v (.int .i64 k),.agg [.x 0 [],.v (.slice none 0 0),.v (.slice none 0 0),.v (.slice none 0 0)]]) 2 (cL c.6) ?_ ?_ ?_
 ·simp [wsL,ws]
 ·intro e e0 hv ag
  simp only[List.length_cons,List.length_nil,List.length_append] at hv ag
  simp [qN,den,hv,hs2 e e0 _ ag 0 (by omega),hs2 e e0 _ ag 1 (by omega),hs2 e e0 _ ag 2 (by omega)]
 refine qI.nilX (args':=[.agg [.v (.int .i64 c.fx),.v (.int .i64 c.ad),.v (.int .i64 c.ins),.x 1 [],.x 2 [],.x 3 [],.x 4 []],.v (.int .i64 k),.agg [.x 0 [],.v (.slice none 0 0),.v (.slice none 0 0),.v (.slice none 0 0)]]) 2 (cK c.7) ?_ ?_ ?_
 ·simp [wsL,ws]
 ·intro e e0 hv ag
  simp only[List.length_cons,List.length_nil,List.length_append] at hv ag
  simp [qN,den,hv,hs2 e e0 _ ag 0 (by omega),hs2 e e0 _ ag 1 (by omega),hs2 e e0 _ ag 2 (by omega),hs2 e e0 _ ag 3 (by omega)]
 refine qI.nilX (args':=[.agg [.v (.int .i64 c.fx),.v (.int .i64 c.ad),.v (.int .i64 c.ins),.x 1 [],.x 2 [],.x 3 [],.x 4 []],.v (.int .i64 k),.agg [.x 0 [],.x 5 [],.v (.slice none 0 0),.v (.slice none 0 0)]]) 2 (cTa p.2) ?_ ?_ ?_
 ·simp [wsL,ws]
 ·intro e e0 hv ag
  simp only[List.length_cons,List.length_nil,List.length_append] at hv ag
  simp [qN,den,hv,hs2 e e0 _ ag 0 (by omega),hs2 e e0 _ ag 1 (by omega),hs2 e e0 _ ag 2 (by omega),hs2 e e0 _ ag 3 (by omega),hs2 e e0 _ ag 4 (by omega)]
 refine qI.nilX (args':=[.agg [.v (.int .i64 c.fx),.v (.int .i64 c.ad),.v (.int .i64 c.ins),.x 1 [],.x 2 [],.x 3 [],.x 4 []],.v (.int .i64 k),.agg [.x 0 [],.x 5 [],.x 6 [],.v (.slice none 0 0)]]) 6 (cLk p.3) ?_ ?_ ?_
 ·simp [wsL,ws]
 ·intro e e0 hv ag
  simp only[List.length_cons,List.length_nil,List.length_append] at hv ag
  simp [qN,den,hv,hs2 e e0 _ ag 0 (by omega),hs2 e e0 _ ag 1 (by omega),hs2 e e0 _ ag 2 (by omega),hs2 e e0 _ ag 3 (by omega),hs2 e e0 _ ag 4 (by omega),hs2 e e0 _ ag 5 (by omega)]
 refine qI.nilX (args':=[.agg [.v (.int .i64 c.fx),.v (.int .i64 c.ad),.v (.int .i64 c.ins),.x 1 [],.x 2 [],.x 3 [],.x 4 []],.v (.int .i64 k),.agg [.x 0 [],.x 5 [],.x 6 [],.x 7 []]]) 1 (cT p.4) ?_ ?_ ?_
 ·simp [wsL,ws]
 ·intro e e0 hv ag
  simp only[List.length_cons,List.length_nil,List.length_append] at hv ag
  simp [qN,den,hv,hs2 e e0 _ ag 0 (by omega),hs2 e e0 _ ag 1 (by omega),hs2 e e0 _ ag 2 (by omega),hs2 e e0 _ ag 3 (by omega),hs2 e e0 _ ag 4 (by omega),hs2 e e0 _ ag 5 (by omega),hs2 e e0 _ ag 6 (by omega)]
 refine qI.gcA (args':=[.agg [.v (.int .i64 c.fx),.v (.int .i64 c.ad),.v (.int .i64 c.ins),.x 0 [],.x 1 [],.x 2 [],.x 3 []],.v (.int .i64 k),.agg [.x 4 [],.x 5 [],.x 6 [],.x 7 []]]) (h':=[.ext false (.s false 7 0 (cN c.4)),.ext false (.s false 1 0 (cI c.5)),.ext false (.s false 2 0 (cL c.6)),.ext false (.s false 2 0 (cK c.7)),.ext false (.s false 2 p.1.length (cRg p.1)),.ext false (.s false 2 0 (cTa p.2)),.ext false (.s false 6 0 (cLk p.3)),.ext false (.s false 1 0 (cT p.4))]) [1,2,3,4,0,5,6,7] (by kernel_rfl) (by kernel_rfl) (by kernel_rfl) ?_
 have:=qWs c hc p hp k Q h1 h2
 rw[e0,e1,e2,e3,e5,e6,e7] at this
 rw[e0,e1,e2,e3,e5,e6,e7]
 exact this
noncomputable def qWk:List SV→List HO→Option ((SV→List HO→Prop)→Prop)
 | [.agg [.v (.int .i64 fx),.v (.int .i64 ad),.v (.int .i64 ins),.v (.slice none 0 0),.v (.slice none 0 0),.v (.slice none 0 0),.v (.slice none 0 0)],.v (.int .i64 k),.agg [.x 0 [],.v (.slice none 0 0),.v (.slice none 0 0),.v (.slice none 0 0)]],[.ext false (.s false 2 m0 d0)]=>some fun Q=>lLy fx ad ins k 0 0 0 0 m0 0 0 0 (cN []) (cI []) (cL []) (cK []) d0 (cTa []) (cLk []) (cT []) (fun e=>Q (.tup [.agg [.v (.slice none 0 0),.v (.slice none 0 0),.v (.slice none 0 0),.v (.slice none 0 0)],.v (.slice none 0 0),.v (.int .i64 e)]) []) (fun s ss=>Q (.tup [.agg [.x 0 [],.x 1 [],.x 2 [],.x 3 []],.x 4 [],.v (.int .i64 0)]) [.ext false (.s false 1 s.fx.length (cT s.fx)),.ext false (.s false 1 s.ad.length (cT s.ad)),.ext false (.s false 1 s.is.length (cT s.is)),.ext false (.s false 4 s.cp.length (cP s.cp)),.ext false (.s false 1 ss.length (cI ss))])
 | _,_=>none
theorem zAw(args:List SV)(h:List HO)(tr:(SV→List HO→Prop)→Prop)(Q:SV→List HO→Prop)(hc:qWk args h=some tr)(ht:tr Q):qI Tryz.prog 12 args h Q:=by
 unfold qWk at hc
 split at hc
 ·simp only[sI] at hc
  subst hc
  obtain⟨c,rfl,rfl,rfl,⟨z0,e0⟩,⟨z1,e1⟩,⟨z2,e2⟩,⟨z3,e3⟩,hk,ht2⟩:=ht.h.h.h
  obtain⟨p,⟨rfl,e4⟩,⟨z5,e5⟩,⟨z6,e6⟩,⟨z7,e7⟩,hp,hq⟩:=ht2.h
  exact qI.ac (zGr c hk p hp _ (List.eq_nil_of_length_eq_zero z0.symm) (List.eq_nil_of_length_eq_zero z1.symm) (List.eq_nil_of_length_eq_zero z2.symm) (List.eq_nil_of_length_eq_zero z3.symm) (List.eq_nil_of_length_eq_zero z5.symm) (List.eq_nil_of_length_eq_zero z6.symm) (List.eq_nil_of_length_eq_zero z7.symm) Q hq.1 hq.2) ⟨⟨rfl,rfl,rfl,rfl,e4⟩,trivial⟩
 ·cases hc
noncomputable def zYg:Con Tryz.prog:=zAl.add 12 (orL qXf (orL qXb qWk)) (zEp qHe (zEp zAr zAw))
end Go.Proofs.YtlmjdcbhpffanaaGreat
/- Plans copied: plain. -/
namespace Go.Pl
open Go.Sx
theorem zAm(f g:Nat→Nat→qB):qCf 0 f g=g:=by
 funext k j
 exact xN _ _ _ (Nat.zero_le _)
theorem zDl{l:List (Int×List Pt)}{k:Nat}(a:Int)(b:List Pt)(h:l.length=k):IsC (k+1) 2 (Ct.app k (.fn (cRg l)) (.lit 2 [.v (.int .i64 a),.s false 7 b.length (cPt b)])).at (Ct.fn (cRg (l++[(a,b)]))).at:=by
 subst h
 exact xQ qWz (0,[]) 2 l (a,b) _ fun j hj=>by
  match j,hj with
  | 0,_=>rfl
  | 1,_=>rfl
theorem zBt{l:List (Int×List Nat)}{k:Nat}(a:Int)(b:List Nat)(h:l.length=k):IsC (k+1) 2 (Ct.app k (.fn (cTa l)) (.lit 2 [.v (.int .i64 a),.s false 4 b.length (cE b)])).at (Ct.fn (cTa (l++[(a,b)]))).at:=by
 subst h
 exact xQ qXg (0,[]) 2 l (a,b) _ fun j hj=>by
  match j,hj with
  | 0,_=>rfl
  | 1,_=>rfl
theorem qLh{l:List (Int×List Pt)}{k:Nat}(h:k<l.length):l.take (k+1)=l.take k++[((gRg l k).1,(gRg l k).2)]:=by
 rw[List.take_add_one,gRg,List.getD_eq_getElem?_getD,List.getElem?_eq_getElem h]; rfl
theorem qLn{l:List (Int×List Nat)}{k:Nat}(h:k<l.length):l.take (k+1)=l.take k++[((gTa l k).1,(gTa l k).2)]:=by
 rw[List.take_add_one,gTa,List.getD_eq_getElem?_getD,List.getElem?_eq_getElem h]; rfl
end Go.Pl
namespace Go.Proofs.YtlmjdcbhpffanaaGreat
open Go.Sx Go.Pl
set_option linter.unusedVariables false
set_option maxRecDepth 100000
end Go.Proofs.YtlmjdcbhpffanaaGreat
/- Plans copied. -/
namespace Go.Proofs.YtlmjdcbhpffanaaGreat
open Go.Sx Go.Pl
set_option linter.unusedVariables false
set_option maxRecDepth 100000
theorem zYq(p:Pln)(K:List It→St→Prop)(R:SV→List HO→Prop):W (xwp Tryz.prog X zAl [] 60 (qO Tryz.f9 [] [⟨[0,1,0,1,1],[4,3,1,2],[]⟩,⟨[0,1,0,1,1,1,1],[6,5,3,1,2],[]⟩]) [] [.at []] ⟨qQ 0 [.agg [.x 0 [],.x 1 [],.x 2 [],.x 3 []]],[.ext false (.s false 2 p.1.length (cRg p.1)),.ext false (.s false 2 p.2.length (cTa p.2)),.ext false (.s false 6 p.3.length (cLk p.3)),.ext false (.s false 1 p.4.length (cT p.4))]⟩ K R)=W (K [.at [0,1,0,1,1],.blk 0,.at [1,1,1]] (St.mk [(4,.v (qA 0)),(3,.o 0),(1,.p 1 0),(2,.p 2 0)] [.rowc 50 2 0 (.lit 2 []),.cells [.x 3 [],.x 4 [],.x 5 [],.x 6 []] 33,.cells [.v (Value.slice none 0 0),.v (Value.slice none 0 0),.v (Value.slice none 0 0),.v (Value.slice none 0 0)] 33,.ext false (.s false 2 p.1.length (cRg p.1)),.ext false (.s false 2 p.2.length (cTa p.2)),.ext false (.s false 6 p.3.length (cLk p.3)),.ext false (.s false 1 p.4.length (cT p.4))])):=by kernel_rfl
theorem zQf(p:Pln)(rs:List (Int×List Pt))(m i M:Nat)(K:List It→St→Prop)(R:SV→List HO→Prop):W (xwp Tryz.prog X zAl [] 60 (qO Tryz.f9 [] [⟨[0,1,0,1,1],[4,3,1,2],[]⟩,⟨[0,1,0,1,1,1,1],[6,5,3,1,2],[]⟩]) [] (.at [0,0,1,0,1,1]::.rnd [0,0,1,0,1,1] M::[.blk 0,.at [1,1,1]]) (St.mk [(4,.v (qA (i:Int))),(3,.o 0),(1,.p 1 0),(2,.p 2 0)] [.rowc 50 2 m (.fn (cRg rs)),.cells [.x 3 [],.x 4 [],.x 5 [],.x 6 []] 33,.cells [.v (Value.slice none 0 0),.v (Value.slice none 0 0),.v (Value.slice none 0 0),.v (Value.slice none 0 0)] 33,.ext false (.s false 2 p.1.length (cRg p.1)),.ext false (.s false 2 p.2.length (cTa p.2)),.ext false (.s false 6 p.3.length (cLk p.3)),.ext false (.s false 1 p.4.length (cT p.4))]) K R)=W (bif decide ((↑i:Int)<(↑p.1.length:Int)) then((∀ M:Mem,(0:Int)≤(↑i:Int)∧(↑i:Int)<(↑p.1.length:Int))∧(∀ M:Mem,i<List.length p.1)∧(∀ M:Mem,i<List.length p.1)∧(∀ M:Mem,(0:Int)≤(↑i:Int)∧(↑i:Int)<(↑p.1.length:Int))∧(∀ M:Mem,i<List.length p.1)∧(∀ M:Mem,i<List.length p.1)∧(∀ M:Mem,i<List.length p.1)∧(∀ M:Mem,(0+List.length (gRg p.1 i).2)*56≤140737488355328∧0+List.length (gRg p.1 i).2≤140737488355328)∧(∀ M:Mem,(m+1)*32≤140737488355328∧m+1≤140737488355328)∧K [.rnd [0,0,1,0,1,1] M,.blk 0,.at [1,1,1]] (St.mk [(4,.v (qA (IntKind.wrap .i64 ((↑i:Int)+(1:Int))))),(3,.o 0),(1,.p 1 0),(2,.p 2 0)] [.rowc 50 2 (m+1) (.app m (.fn (cRg rs)) (.lit 2 [.v (qA (gRg p.1 i).1),.s false 7 (0+List.length (gRg p.1 i).2) (qCf 0 (lc 7 []) (cPt (gRg p.1 i).2))])),.cells [.x 3 [],.x 4 [],.x 5 [],.x 6 []] 33,.cells [.v (Value.slice none 0 0),.v (Value.slice none 0 0),.v (Value.slice none 0 0),.v (Value.slice none 0 0)] 33,.ext false (.s false 2 p.1.length (cRg p.1)),.ext false (.s false 2 p.2.length (cTa p.2)),.ext false (.s false 6 p.3.length (cLk p.3)),.ext false (.s false 1 p.4.length (cT p.4))]))∧((∀ M:Mem,(0:Int)≤(↑i:Int)∧(↑i:Int)<(↑p.1.length:Int))∧(∀ M:Mem,i<List.length p.1)∧(∀ M:Mem,i<List.length p.1)∧(∀ M:Mem,(0:Int)≤(↑i:Int)∧(↑i:Int)<(↑p.1.length:Int))∧(∀ M:Mem,i<List.length p.1)∧(∀ M:Mem,i<List.length p.1)∧(∀ M:Mem,i<List.length p.1)∧(∀ M:Mem,(0+List.length (gRg p.1 i).2)*56≤140737488355328∧0+List.length (gRg p.1 i).2≤140737488355328)∧(∀ M:Mem,(m+1)*32≤140737488355328∧m+1≤140737488355328)∧K [.rnd [0,0,1,0,1,1] M,.blk 0,.at [1,1,1]] (St.mk [(4,.v (qA (IntKind.wrap .i64 ((↑i:Int)+(1:Int))))),(3,.o 0),(1,.p 1 0),(2,.p 2 0)] [.rowc 50 2 (m+1) (.app m (.fn (cRg rs)) (.lit 2 [.v (qA (gRg p.1 i).1),.s false 7 (0+List.length (gRg p.1 i).2) (qCf 0 (lc 7 []) (cPt (gRg p.1 i).2))])),.cells [.x 3 [],.x 4 [],.x 5 [],.x 6 []] 33,.cells [.v (Value.slice none 0 0),.v (Value.slice none 0 0),.v (Value.slice none 0 0),.v (Value.slice none 0 0)] 33,.ext false (.s false 2 p.1.length (cRg p.1)),.ext false (.s false 2 p.2.length (cTa p.2)),.ext false (.s false 6 p.3.length (cLk p.3)),.ext false (.s false 1 p.4.length (cT p.4))]))∧((∀ M:Mem,(0:Int)≤(↑i:Int)∧(↑i:Int)<(↑p.1.length:Int))∧(∀ M:Mem,i<List.length p.1)∧(∀ M:Mem,i<List.length p.1)∧(∀ M:Mem,(0:Int)≤(↑i:Int)∧(↑i:Int)<(↑p.1.length:Int))∧(∀ M:Mem,i<List.length p.1)∧(∀ M:Mem,i<List.length p.1)∧(∀ M:Mem,(0+List.length (gRg p.1 i).2)*56≤140737488355328∧0+List.length (gRg p.1 i).2≤140737488355328)∧(∀ M:Mem,i<List.length p.1)∧(∀ M:Mem,(m+1)*32≤140737488355328∧m+1≤140737488355328)∧K [.rnd [0,0,1,0,1,1] M,.blk 0,.at [1,1,1]] (St.mk [(4,.v (qA (IntKind.wrap .i64 ((↑i:Int)+(1:Int))))),(3,.o 0),(1,.p 1 0),(2,.p 2 0)] [.rowc 50 2 (m+1) (.app m (.fn (cRg rs)) (.lit 2 [.v (qA (gRg p.1 i).1),.s false 7 (0+List.length (gRg p.1 i).2) (qCf 0 (lc 7 []) (cPt (gRg p.1 i).2))])),.cells [.x 3 [],.x 4 [],.x 5 [],.x 6 []] 33,.cells [.v (Value.slice none 0 0),.v (Value.slice none 0 0),.v (Value.slice none 0 0),.v (Value.slice none 0 0)] 33,.ext false (.s false 2 p.1.length (cRg p.1)),.ext false (.s false 2 p.2.length (cTa p.2)),.ext false (.s false 6 p.3.length (cLk p.3)),.ext false (.s false 1 p.4.length (cT p.4))]))∧((∀ M:Mem,(0:Int)≤(↑i:Int)∧(↑i:Int)<(↑p.1.length:Int))∧(∀ M:Mem,i<List.length p.1)∧(∀ M:Mem,i<List.length p.1)∧(∀ M:Mem,(0:Int)≤(↑i:Int)∧(↑i:Int)<(↑p.1.length:Int))∧(∀ M:Mem,i<List.length p.1)∧(∀ M:Mem,i<List.length p.1)∧(∀ M:Mem,i<List.length p.1)∧(∀ M:Mem,(0+List.length (gRg p.1 i).2)*56≤140737488355328∧0+List.length (gRg p.1 i).2≤140737488355328)∧(∀ M:Mem,(m+1)*32≤140737488355328∧m+1≤140737488355328)∧K [.rnd [0,0,1,0,1,1] M,.blk 0,.at [1,1,1]] (St.mk [(4,.v (qA (IntKind.wrap .i64 ((↑i:Int)+(1:Int))))),(3,.o 0),(1,.p 1 0),(2,.p 2 0)] [.rowc 50 2 (m+1) (.app m (.fn (cRg rs)) (.lit 2 [.v (qA (gRg p.1 i).1),.s false 7 (0+List.length (gRg p.1 i).2) (qCf 0 (lc 7 []) (cPt (gRg p.1 i).2))])),.cells [.x 3 [],.x 4 [],.x 5 [],.x 6 []] 33,.cells [.v (Value.slice none 0 0),.v (Value.slice none 0 0),.v (Value.slice none 0 0),.v (Value.slice none 0 0)] 33,.ext false (.s false 2 p.1.length (cRg p.1)),.ext false (.s false 2 p.2.length (cTa p.2)),.ext false (.s false 6 p.3.length (cLk p.3)),.ext false (.s false 1 p.4.length (cT p.4))]))∧((∀ M:Mem,(0:Int)≤(↑i:Int)∧(↑i:Int)<(↑p.1.length:Int))∧(∀ M:Mem,i<List.length p.1)∧(∀ M:Mem,i<List.length p.1)∧(∀ M:Mem,(0:Int)≤(↑i:Int)∧(↑i:Int)<(↑p.1.length:Int))∧(∀ M:Mem,i<List.length p.1)∧(∀ M:Mem,i<List.length p.1)∧(∀ M:Mem,(0+List.length (gRg p.1 i).2)*56≤140737488355328∧0+List.length (gRg p.1 i).2≤140737488355328)∧(∀ M:Mem,i<List.length p.1)∧(∀ M:Mem,(m+1)*32≤140737488355328∧m+1≤140737488355328)∧K [.rnd [0,0,1,0,1,1] M,.blk 0,.at [1,1,1]] (St.mk [(4,.v (qA (IntKind.wrap .i64 ((↑i:Int)+(1:Int))))),(3,.o 0),(1,.p 1 0),(2,.p 2 0)] [.rowc 50 2 (m+1) (.app m (.fn (cRg rs)) (.lit 2 [.v (qA (gRg p.1 i).1),.s false 7 (0+List.length (gRg p.1 i).2) (qCf 0 (lc 7 []) (cPt (gRg p.1 i).2))])),.cells [.x 3 [],.x 4 [],.x 5 [],.x 6 []] 33,.cells [.v (Value.slice none 0 0),.v (Value.slice none 0 0),.v (Value.slice none 0 0),.v (Value.slice none 0 0)] 33,.ext false (.s false 2 p.1.length (cRg p.1)),.ext false (.s false 2 p.2.length (cTa p.2)),.ext false (.s false 6 p.3.length (cLk p.3)),.ext false (.s false 1 p.4.length (cT p.4))]))∧(∀ M:Mem,(0:Int)≤(↑i:Int)∧(↑i:Int)<(↑p.1.length:Int))∧(∀ M:Mem,i<List.length p.1)∧(∀ M:Mem,i<List.length p.1)∧(∀ M:Mem,i<List.length p.1)∧(∀ M:Mem,(0+List.length (gRg p.1 i).2)*56≤140737488355328∧0+List.length (gRg p.1 i).2≤140737488355328)∧(∀ M:Mem,(0:Int)≤(↑i:Int)∧(↑i:Int)<(↑p.1.length:Int))∧(∀ M:Mem,i<List.length p.1)∧(∀ M:Mem,i<List.length p.1)∧(∀ M:Mem,(m+1)*32≤140737488355328∧m+1≤140737488355328)∧K [.rnd [0,0,1,0,1,1] M,.blk 0,.at [1,1,1]] (St.mk [(4,.v (qA (IntKind.wrap .i64 ((↑i:Int)+(1:Int))))),(3,.o 0),(1,.p 1 0),(2,.p 2 0)] [.rowc 50 2 (m+1) (.app m (.fn (cRg rs)) (.lit 2 [.v (qA (gRg p.1 i).1),.s false 7 (0+List.length (gRg p.1 i).2) (qCf 0 (lc 7 []) (cPt (gRg p.1 i).2))])),.cells [.x 3 [],.x 4 [],.x 5 [],.x 6 []] 33,.cells [.v (Value.slice none 0 0),.v (Value.slice none 0 0),.v (Value.slice none 0 0),.v (Value.slice none 0 0)] 33,.ext false (.s false 2 p.1.length (cRg p.1)),.ext false (.s false 2 p.2.length (cTa p.2)),.ext false (.s false 6 p.3.length (cLk p.3)),.ext false (.s false 1 p.4.length (cT p.4))]) else K [.at [0,1,0,1,1,1,1],.blk 2,.at [1,1,1,1,1]] (St.mk [(6,.v (qA 0)),(5,.o 0),(3,.o 1),(1,.p 2 0),(2,.p 3 0)] [.rowc 78 2 0 (.lit 2 []),.rowc 50 2 m (.fn (cRg rs)),.cells [.x 4 [],.x 5 [],.x 6 [],.x 7 []] 33,.cells [.v (Value.slice none 0 0),.v (Value.slice none 0 0),.v (Value.slice none 0 0),.v (Value.slice none 0 0)] 33,.ext false (.s false 2 p.1.length (cRg p.1)),.ext false (.s false 2 p.2.length (cTa p.2)),.ext false (.s false 6 p.3.length (cLk p.3)),.ext false (.s false 1 p.4.length (cT p.4))])):=by kernel_rfl
theorem zQv(p:Pln)(rs:List (Int×List Pt))(ts:List (Int×List Nat))(m n i M:Nat)(K:List It→St→Prop)(R:SV→List HO→Prop):W (xwp Tryz.prog X zAl [] 60 (qO Tryz.f9 [] [⟨[0,1,0,1,1],[4,3,1,2],[]⟩,⟨[0,1,0,1,1,1,1],[6,5,3,1,2],[]⟩]) [] (.at [0,0,1,0,1,1,1,1]::.rnd [0,0,1,0,1,1,1,1] M::[.blk 2,.at [1,1,1,1,1]]) (St.mk [(6,.v (qA (i:Int))),(5,.o 0),(3,.o 1),(1,.p 2 0),(2,.p 3 0)] [.rowc 78 2 n (.fn (cTa ts)),.rowc 50 2 m (.fn (cRg rs)),.cells [.x 4 [],.x 5 [],.x 6 [],.x 7 []] 33,.cells [.v (Value.slice none 0 0),.v (Value.slice none 0 0),.v (Value.slice none 0 0),.v (Value.slice none 0 0)] 33,.ext false (.s false 2 p.1.length (cRg p.1)),.ext false (.s false 2 p.2.length (cTa p.2)),.ext false (.s false 6 p.3.length (cLk p.3)),.ext false (.s false 1 p.4.length (cT p.4))]) K R)=W (bif decide ((↑i:Int)<(↑p.2.length:Int)) then(∀ M:Mem,(0:Int)≤(↑i:Int)∧(↑i:Int)<(↑p.2.length:Int))∧(∀ M:Mem,i<List.length p.2)∧(∀ M:Mem,i<List.length p.2)∧(∀ M:Mem,(0:Int)≤(↑i:Int)∧(↑i:Int)<(↑p.2.length:Int))∧(∀ M:Mem,i<List.length p.2)∧(∀ M:Mem,i<List.length p.2)∧(∀ M:Mem,i<List.length p.2)∧lE (List.length (gTa p.2 i).2) (cE (gTa p.2 i).2) fun(l:List Nat)=>(∀ M:Mem,(n+1)*32≤140737488355328∧n+1≤140737488355328)∧K [.rnd [0,0,1,0,1,1,1,1] M,.blk 2,.at [1,1,1,1,1]] (St.mk [(6,.v (qA (IntKind.wrap .i64 ((↑i:Int)+(1:Int))))),(5,.o 0),(3,.o 1),(1,.p 2 0),(2,.p 3 0)] [.rowc 78 2 (n+1) (.app n (.fn (cTa ts)) (.lit 2 [.v (qA (gTa p.2 i).1),.s false 4 l.length (cE l)])),.rowc 50 2 m (.fn (cRg rs)),.cells [.x 4 [],.x 5 [],.x 6 [],.x 7 []] 33,.cells [.v (Value.slice none 0 0),.v (Value.slice none 0 0),.v (Value.slice none 0 0),.v (Value.slice none 0 0)] 33,.ext false (.s false 2 p.1.length (cRg p.1)),.ext false (.s false 2 p.2.length (cTa p.2)),.ext false (.s false 6 p.3.length (cLk p.3)),.ext false (.s false 1 p.4.length (cT p.4))]) else((∀ M:Mem,(0+List.length p.3)*48≤140737488355328∧0+List.length p.3≤140737488355328)∧lT p.4.length (cT p.4) fun(l:List (List Nat))=>(∀ M:Mem,0+4≤4)∧R (.agg [.o 0,.o 1,.o 2,.x 3 []]) [.rowc 50 2 m (.fn (cRg rs)),.rowc 78 2 n (.fn (cTa ts)),.rowc 90 6 (0+List.length p.3) (.app 0 (.lit 6 []) (.fn (cLk p.3))),.ext false (.s false 1 l.length (cT l))])∧((∀ M:Mem,(0+List.length p.3)*48≤140737488355328∧0+List.length p.3≤140737488355328)∧lT p.4.length (cT p.4) fun(l:List (List Nat))=>(∀ M:Mem,0+4≤4)∧R (.agg [.o 0,.o 1,.o 2,.x 3 []]) [.rowc 50 2 m (.fn (cRg rs)),.rowc 78 2 n (.fn (cTa ts)),.rowc 90 6 (0+List.length p.3) (.app 0 (.lit 6 []) (.fn (cLk p.3))),.ext false (.s false 1 l.length (cT l))])∧(∀ M:Mem,(0+List.length p.3)*48≤140737488355328∧0+List.length p.3≤140737488355328)∧lT p.4.length (cT p.4) fun(l:List (List Nat))=>(∀ M:Mem,0+4≤4)∧R (.agg [.o 0,.o 1,.o 2,.x 3 []]) [.rowc 50 2 m (.fn (cRg rs)),.rowc 78 2 n (.fn (cTa ts)),.rowc 90 6 (0+List.length p.3) (.app 0 (.lit 6 []) (.fn (cLk p.3))),.ext false (.s false 1 l.length (cT l))]):=by kernel_rfl
theorem qOk(p:Pln)(hp:p.ok)(Q:SV→List HO→Prop)(hq:FOk Tryz.prog Tryz.f9 Q (.at [0,1,0,1,1,1,1]::[.blk 2,.at [1,1,1,1,1]]) (St.mk [(6,SV.v (qA (0:Int))),(5,SV.o 0),(3,SV.o 1),(1,SV.p 2 0),(2,SV.p 3 0)] [HO.rowc 78 2 0 (Ct.lit 2 []),HO.rowc 50 2 p.rg.length (Ct.fn (cRg p.rg)),HO.cells [SV.x 4 [],SV.x 5 [],SV.x 6 [],SV.x 7 []] 33,HO.cells [SV.v (Value.slice none 0 0),SV.v (Value.slice none 0 0),SV.v (Value.slice none 0 0),SV.v (Value.slice none 0 0)] 33,HO.ext false (qB.s false 2 (List.length p.1) (cRg p.1)),HO.ext false (qB.s false 2 (List.length p.2) (cTa p.2)),HO.ext false (qB.s false 6 (List.length p.3) (cLk p.3)),HO.ext false (qB.s false 1 (List.length p.4) (cT p.4))])):∀(d i:Nat) (rs:List (Int×List Pt)),i+d=p.rg.length→rs=p.rg.take i →
  FOk Tryz.prog Tryz.f9 Q (.rnd [0,0,1,0,1,1] (d+1)::[.blk 0,.at [1,1,1]]) (St.mk [(4,SV.v (qA (i:Int))),(3,SV.o 0),(1,SV.p 1 0),(2,SV.p 2 0)] [HO.rowc 50 2 rs.length (Ct.fn (cRg rs)),HO.cells [SV.x 3 [],SV.x 4 [],SV.x 5 [],SV.x 6 []] 33,HO.cells [SV.v (Value.slice none 0 0),SV.v (Value.slice none 0 0),SV.v (Value.slice none 0 0),SV.v (Value.slice none 0 0)] 33,HO.ext false (qB.s false 2 (List.length p.1) (cRg p.1)),HO.ext false (qB.s false 2 (List.length p.2) (cTa p.2)),HO.ext false (qB.s false 6 (List.length p.3) (cLk p.3)),HO.ext false (qB.s false 1 (List.length p.4) (cT p.4))])
 | 0,i,rs,hd,hr=>by
  refine FOk.rnd (qC hm 60 ((zQf p rs rs.length i 0 _ _).mpr ⟨?_⟩))
  rw[qD,if_neg (by omega)]
  obtain rfl:rs=p.rg:=by rw[hr,show i=p.rg.length by omega,List.take_length]
  exact hq
 | d+1,i,rs,hd,hr=>by
  have hi:i<p.rg.length:=by omega
  have hlen:rs.length=i:=by rw[hr,List.length_take]; omega
  have hb:=hp.r.2
  have hb2:=(hp.r.1 _ (zR hi)).2.2
  have ih:=qOk p hp Q hq d (i+1) (rs++[((gRg p.rg i).1,(gRg p.rg i).2)]) (by omega) (by rw[hr,qLh hi])
  refine FOk.rnd (qC hm 60 ((zQf p rs rs.length i (d+1) _ _).mpr ⟨?_⟩))
  rw[qD,if_pos (by omega),qK _ (by omega),Nat.zero_add,zAm]
  repeat' (first | refine And.intro (fun _=>by omega) ?_ | refine And.intro ?_ ?_)
  all_goals exact FOk.cv ih ⟨⟨rfl,rfl,by rw[List.length_append]; rfl,zDl _ _ rfl⟩,HE.refl _,HE.refl _,HE.refl _,HE.refl _,HE.refl _,HE.refl _,trivial⟩
theorem qQd(p:Pln)(hp:p.ok)(Q:SV→List HO→Prop)(hq:Q (.agg [.o 0,.o 1,.o 2,.x 3 []]) [HO.rowc 50 2 p.rg.length (Ct.fn (cRg p.rg)),HO.rowc 78 2 p.tb.length (Ct.fn (cTa p.tb)),HO.rowc 90 6 (0+p.lk.length) (Ct.app 0 (Ct.lit 6 []) (Ct.fn (cLk p.lk))),HO.ext false (qB.s false 1 p.is.length (cT p.is))]):∀(d i:Nat) (ts:List (Int×List Nat)),i+d=p.tb.length→ts=p.tb.take i →
  FOk Tryz.prog Tryz.f9 Q (.rnd [0,0,1,0,1,1,1,1] (d+1)::[.blk 2,.at [1,1,1,1,1]]) (St.mk [(6,SV.v (qA (i:Int))),(5,SV.o 0),(3,SV.o 1),(1,SV.p 2 0),(2,SV.p 3 0)] [HO.rowc 78 2 ts.length (Ct.fn (cTa ts)),HO.rowc 50 2 p.rg.length (Ct.fn (cRg p.rg)),HO.cells [SV.x 4 [],SV.x 5 [],SV.x 6 [],SV.x 7 []] 33,HO.cells [SV.v (Value.slice none 0 0),SV.v (Value.slice none 0 0),SV.v (Value.slice none 0 0),SV.v (Value.slice none 0 0)] 33,HO.ext false (qB.s false 2 (List.length p.1) (cRg p.1)),HO.ext false (qB.s false 2 (List.length p.2) (cTa p.2)),HO.ext false (qB.s false 6 (List.length p.3) (cLk p.3)),HO.ext false (qB.s false 1 (List.length p.4) (cT p.4))])
 | 0,i,ts,hd,hr=>by
  have hb:=hp.l.2
  refine FOk.rnd (qC hm 60 ((zQv p p.rg ts p.rg.length ts.length i 0 _ _).mpr ⟨?_⟩))
  rw[qD,if_neg (by omega)]
  obtain rfl:ts=p.tb:=by rw[hr,show i=p.tb.length by omega,List.take_length]
  repeat' (first | refine And.intro (fun _=>by omega) ?_ | refine And.intro ?_ ?_)
  all_goals exact qDe hp.i (And.intro (fun _=>by omega) hq)
 | d+1,i,ts,hd,hr=>by
  have hi:i<p.tb.length:=by omega
  have hlen:ts.length=i:=by rw[hr,List.length_take]; omega
  have hb:=hp.t.2
  have hb2:=(hp.t.1 _ (wY hi)).2.2
  have ih:=qQd p hp Q hq d (i+1) (ts++[((gTa p.tb i).1,(gTa p.tb i).2)]) (by omega) (by rw[hr,qLn hi])
  refine FOk.rnd (qC hm 60 ((zQv p p.rg ts p.rg.length ts.length i (d+1) _ _).mpr ⟨?_⟩))
  rw[qD,if_pos (by omega),qK _ (by omega)]
  repeat' (refine And.intro (fun _=>by omega) ?_)
  refine⟨⟨(gTa p.tb i).2,rfl,IsC.refl _ _ _,by omega,(hp.t.1 _ (wY hi)).2.1,?_⟩⟩
  repeat' (refine And.intro (fun _=>by omega) ?_)
  exact FOk.cv ih ⟨⟨rfl,rfl,by rw[List.length_append]; rfl,zBt _ _ rfl⟩,HE.refl _,HE.refl _,HE.refl _,HE.refl _,HE.refl _,HE.refl _,HE.refl _,trivial⟩
theorem zUl:Tryz.f9.body.isSome=true:=by kernel_rfl
theorem zWx:Nat.ble ([.agg [.x 0 [],.x 1 [],.x 2 [],.x 3 []]]:List SV).length Tryz.f9.ntmps=true:=by kernel_rfl
theorem zMs(p:Pln)(hp:p.ok)(Q:SV→List HO→Prop)(hq:Q (.agg [.x 0 [],.x 1 [],.x 2 [],.x 3 []]) [.ext false (.s false 2 p.1.length (cRg p.1)),.ext false (.s false 2 p.2.length (cTa p.2)),.ext false (.s false 6 p.3.length (cLk p.3)),.ext false (.s false 1 p.4.length (cT p.4))]):qI Tryz.prog 9 [.agg [.x 0 [],.x 1 [],.x 2 [],.x 3 []]] [.ext false (.s false 2 p.1.length (cRg p.1)),.ext false (.s false 2 p.2.length (cTa p.2)),.ext false (.s false 6 p.3.length (cLk p.3)),.ext false (.s false 1 p.4.length (cT p.4))] Q:=by
 have h0:qI Tryz.prog 9 [.agg [.x 0 [],.x 1 [],.x 2 [],.x 3 []]] [.ext false (.s false 2 p.1.length (cRg p.1)),.ext false (.s false 2 p.2.length (cTa p.2)),.ext false (.s false 6 p.3.length (cLk p.3)),.ext false (.s false 1 p.4.length (cT p.4))] (fun r h'=>r=.agg [.o 0,.o 1,.o 2,.x 3 []]∧HEs h' [HO.rowc 50 2 p.rg.length (Ct.fn (cRg p.rg)),HO.rowc 78 2 p.tb.length (Ct.fn (cTa p.tb)),HO.rowc 90 6 p.lk.length (Ct.fn (cLk p.lk)),HO.ext false (qB.s false 1 p.is.length (cT p.is))]):=by
  refine qL Tryz.func9 zUl zWx ?_
  refine qC hm 60 ((zYq p _ _).mpr ⟨?_⟩)
  refine FOk.loop (p.rg.length+1) (by kernel_rfl) (FOk.cv (qOk p hp _ ?_ p.rg.length 0 [] (by omega) rfl) ⟨⟨rfl,rfl,rfl,fun k hk=>absurd hk (Nat.not_lt_zero k)⟩,HE.refl _,HE.refl _,HE.refl _,HE.refl _,HE.refl _,HE.refl _,trivial⟩)
  refine FOk.loop (p.tb.length+1) (by kernel_rfl) (FOk.cv (qQd p hp _ ?_ p.tb.length 0 [] (by omega) rfl) ⟨⟨rfl,rfl,rfl,fun k hk=>absurd hk (Nat.not_lt_zero k)⟩,HE.refl _,HE.refl _,HE.refl _,HE.refl _,HE.refl _,HE.refl _,HE.refl _,trivial⟩)
  exact⟨rfl,HE.refl _,HE.refl _,⟨rfl,rfl,Nat.zero_add _,fun k hk j hj=>xN _ _ _ (Nat.zero_le _)⟩,HE.refl _,trivial⟩
 have h1:=qI.frz1 0 (T:=50) (sz:=2) (n:=p.rg.length) (c:=.fn (cRg p.rg)) (by kernel_rfl) (qI.eqv h0)
 have h2:=qI.frz1 1 (T:=78) (sz:=2) (n:=p.tb.length) (c:=.fn (cTa p.tb)) (by kernel_rfl) h1
 have h3:=qI.frz1 2 (T:=90) (sz:=6) (n:=p.lk.length) (c:=.fn (cLk p.lk)) (by kernel_rfl) h2
 have h4:=qI.gc (r1:=.agg [.x 0 [],.x 1 [],.x 2 [],.x 3 []]) (h1:=[.ext false (.s false 2 p.1.length (cRg p.1)),.ext false (.s false 2 p.2.length (cTa p.2)),.ext false (.s false 6 p.3.length (cLk p.3)),.ext false (.s false 1 p.4.length (cT p.4))]) (by kernel_rfl) h3
 exact qI.mono h4 fun r h' hh=>by rw[hh.1,hh.2]; exact hq
noncomputable def zOl:List SV→List HO→Option ((SV→List HO→Prop)→Prop)
 | [.agg [.x 0 [],.x 1 [],.x 2 [],.x 3 []]],[.ext false (.s false 2 m0 d0),.ext false (.s false 2 m1 d1),.ext false (.s false 6 m2 d2),.ext false (.s false 1 m3 d3)] =>
  some fun Q=>lPn m0 m1 m2 m3 d0 d1 d2 d3 fun p=>Q (.agg [.x 0 [],.x 1 [],.x 2 [],.x 3 []]) [.ext false (.s false 2 p.1.length (cRg p.1)),.ext false (.s false 2 p.2.length (cTa p.2)),.ext false (.s false 6 p.3.length (cLk p.3)),.ext false (.s false 1 p.4.length (cT p.4))]
 | _,_=>none
theorem zHf(args:List SV)(h:List HO)(tr:(SV→List HO→Prop)→Prop)(Q:SV→List HO→Prop)(hc:zOl args h=some tr)(ht:tr Q):qI Tryz.prog 9 args h Q:=by
 unfold zOl at hc
 split at hc
 ·simp only[sI] at hc
  subst hc
  obtain⟨p,⟨rfl,e4⟩,⟨rfl,e5⟩,⟨rfl,e6⟩,⟨rfl,e7⟩,hp,hq⟩:=ht.h
  exact qI.ac (zMs p hp Q hq) ⟨⟨rfl,rfl,rfl,rfl,e4⟩,⟨rfl,rfl,rfl,rfl,e5⟩,⟨rfl,rfl,rfl,rfl,e6⟩,⟨rfl,rfl,rfl,rfl,e7⟩,trivial⟩
 ·cases hc
noncomputable def zZd:Con Tryz.prog:=zYg.add 9 zOl zHf
end Go.Proofs.YtlmjdcbhpffanaaGreat
/- Is a case great: plain. -/
namespace Go.Pl
structure lBo (k:Bool→Prop):Prop where
 h:∀ b,k b
end Go.Pl
namespace Go.Proofs.YtlmjdcbhpffanaaGreat
open Go.Sx Go.Pl
set_option linter.unusedVariables false
set_option maxRecDepth 100000
end Go.Proofs.YtlmjdcbhpffanaaGreat
/- Is a case great. -/
namespace Go.Proofs.YtlmjdcbhpffanaaGreat
open Go.Sx Go.Pl
set_option linter.unusedVariables false
set_option maxRecDepth 100000
theorem zUx(c:Cir)(p:Pln)(K:List It→St→Prop)(R:SV→List HO→Prop):W (xwp Tryz.prog X zAl [] 60 (qO Tryz.f7 [] [⟨[0,1,0,1,1],[6,5,2,3],[]⟩]) [] [.at []] ⟨qQ 0 [.agg [.v (.int .i64 c.fx),.v (.int .i64 c.ad),.v (.int .i64 c.ins),.x 0 [],.x 1 [],.x 2 [],.x 3 []],.agg [.x 4 [],.x 5 [],.x 6 [],.x 7 []]],[.ext false (.s false 7 c.nodes.length (cN c.nodes)),.ext false (.s false 1 c.gates.length (cI c.gates)),.ext false (.s false 2 c.looks.length (cL c.looks)),.ext false (.s false 2 c.eqs.length (cK c.eqs)),.ext false (.s false 2 p.1.length (cRg p.1)),.ext false (.s false 2 p.2.length (cTa p.2)),.ext false (.s false 6 p.3.length (cLk p.3)),.ext false (.s false 1 p.4.length (cT p.4))]⟩ K R)=W (K [.at [0,1,0,1,1],.blk 0,.at [1,1,1]] (St.mk [(6,.v (qA 0)),(5,.v (qA (IntKind.wrap .i64 (IntKind.wrap .i64 ((↑p.1.length:Int)+(↑p.2.length:Int))+(↑p.3.length:Int))))),(2,.p 0 0),(3,.p 1 0)] [.cells [.v (qA c.1),.v (qA c.2),.v (qA c.3),.x 2 [],.x 3 [],.x 4 [],.x 5 []] 27,.cells [.x 6 [],.x 7 [],.x 8 [],.x 9 []] 33,.ext false (.s false 7 c.4.length (cN c.4)),.ext false (.s false 1 c.5.length (cI c.5)),.ext false (.s false 2 c.6.length (cL c.6)),.ext false (.s false 2 c.7.length (cK c.7)),.ext false (.s false 2 p.1.length (cRg p.1)),.ext false (.s false 2 p.2.length (cTa p.2)),.ext false (.s false 6 p.3.length (cLk p.3)),.ext false (.s false 1 p.4.length (cT p.4))])):=by kernel_rfl
theorem zTc(c:Cir)(p:Pln)(n:Int)(i M:Nat)(K:List It→St→Prop)(R:SV→List HO→Prop):W (xwp Tryz.prog X zAl [] 60 (qO Tryz.f7 [] [⟨[0,1,0,1,1],[6,5,2,3],[]⟩]) [] (.at [0,0,1,0,1,1]::.rnd [0,0,1,0,1,1] M::[.blk 0,.at [1,1,1]]) (St.mk [(6,.v (qA (i:Int))),(5,.v (qA n)),(2,.p 0 0),(3,.p 1 0)] [.cells [.v (qA c.1),.v (qA c.2),.v (qA c.3),.x 2 [],.x 3 [],.x 4 [],.x 5 []] 27,.cells [.x 6 [],.x 7 [],.x 8 [],.x 9 []] 33,.ext false (.s false 7 c.4.length (cN c.4)),.ext false (.s false 1 c.5.length (cI c.5)),.ext false (.s false 2 c.6.length (cL c.6)),.ext false (.s false 2 c.7.length (cK c.7)),.ext false (.s false 2 p.1.length (cRg p.1)),.ext false (.s false 2 p.2.length (cTa p.2)),.ext false (.s false 6 p.3.length (cLk p.3)),.ext false (.s false 1 p.4.length (cT p.4))]) K R)=W (bif decide ((↑i:Int)<(↑p.1.length:Int)) then(∀ M:Mem,(0:Int)≤(↑i:Int)∧(↑i:Int)<(↑p.1.length:Int))∧(∀ M:Mem,i<List.length p.1)∧(∀ M:Mem,i<List.length p.1)∧(∀ M:Mem,i<List.length p.1)∧K [.rnd [0,0,1,0,1,1] M,.blk 0,.at [1,1,1]] (St.mk [(6,.v (qA (IntKind.wrap .i64 ((↑i:Int)+(1:Int))))),(5,.v (qA (IntKind.wrap .i64 (n+(↑(List.length (gRg p.1 i).2):Int))))),(2,.p 0 0),(3,.p 1 0)] [.cells [.v (qA c.1),.v (qA c.2),.v (qA c.3),.x 2 [],.x 3 [],.x 4 [],.x 5 []] 27,.cells [.x 6 [],.x 7 [],.x 8 [],.x 9 []] 33,.ext false (.s false 7 c.4.length (cN c.4)),.ext false (.s false 1 c.5.length (cI c.5)),.ext false (.s false 2 c.6.length (cL c.6)),.ext false (.s false 2 c.7.length (cK c.7)),.ext false (.s false 2 p.1.length (cRg p.1)),.ext false (.s false 2 p.2.length (cTa p.2)),.ext false (.s false 6 p.3.length (cLk p.3)),.ext false (.s false 1 p.4.length (cT p.4))]) else bif decide ((400:Int)<n) then R (.v (.bool true)) [] else bif decide ((200:Int)<(↑c.4.length:Int)) then R (.v (.bool true)) [] else bif decide ((100:Int)<(↑c.5.length:Int)) then R (.v (.bool true)) [] else bif decide ((20:Int)<(↑c.6.length:Int)) then R (.v (.bool true)) [] else R (.v (.bool (decide ((100:Int)<(↑c.7.length:Int))))) []):=by kernel_rfl
theorem qUs(c:Cir)(p:Pln)(hp:p.ok)(Q:SV→List HO→Prop)(hq:∀ b,Q (.v (.bool b)) []):∀(d i:Nat) (n:Int),i+d=p.rg.length →
  FOk Tryz.prog Tryz.f7 Q (.rnd [0,0,1,0,1,1] (d+1)::[.blk 0,.at [1,1,1]]) (St.mk [(6,SV.v (qA (i:Int))),(5,SV.v (qA n)),(2,SV.p 0 0),(3,SV.p 1 0)] [HO.cells [SV.v (qA c.1),SV.v (qA c.2),SV.v (qA c.3),SV.x 2 [],SV.x 3 [],SV.x 4 [],SV.x 5 []] 27,HO.cells [SV.x 6 [],SV.x 7 [],SV.x 8 [],SV.x 9 []] 33,HO.ext false (qB.s false 7 (List.length c.4) (cN c.4)),HO.ext false (qB.s false 1 (List.length c.5) (cI c.5)),HO.ext false (qB.s false 2 (List.length c.6) (cL c.6)),HO.ext false (qB.s false 2 (List.length c.7) (cK c.7)),HO.ext false (qB.s false 2 (List.length p.1) (cRg p.1)),HO.ext false (qB.s false 2 (List.length p.2) (cTa p.2)),HO.ext false (qB.s false 6 (List.length p.3) (cLk p.3)),HO.ext false (qB.s false 1 (List.length p.4) (cT p.4))])
 | 0,i,n,hd=>by
  refine FOk.rnd (qC hm 60 ((zTc c p n i 0 _ _).mpr ⟨?_⟩))
  rw[qD,if_neg (by omega)]
  exact qJ (fun _=>hq _) fun _=>qJ (fun _=>hq _) fun _=>qJ (fun _=>hq _) fun _=>qJ (fun _=>hq _) fun _=>hq _
 | d+1,i,n,hd=>by
  have hi:i<p.rg.length:=by omega
  have hb:=hp.r.2
  refine FOk.rnd (qC hm 60 ((zTc c p n i (d+1) _ _).mpr ⟨?_⟩))
  rw[qD,if_pos (by omega),qK _ (by omega)]
  repeat' (refine And.intro (fun _=>by omega) ?_)
  exact qUs c p hp Q hq d (i+1) _ (by omega)
theorem zXc:Tryz.f7.body.isSome=true:=by kernel_rfl
theorem zUs(c:Cir):Nat.ble ([.agg [.v (.int .i64 c.fx),.v (.int .i64 c.ad),.v (.int .i64 c.ins),.x 0 [],.x 1 [],.x 2 [],.x 3 []],.agg [.x 4 [],.x 5 [],.x 6 [],.x 7 []]]:List SV).length Tryz.f7.ntmps=true:=by kernel_rfl
theorem zJk(c:Cir)(p:Pln)(hp:p.ok)(Q:SV→List HO→Prop)(hq:∀ b,Q (.v (.bool b)) []):qI Tryz.prog 7 [.agg [.v (.int .i64 c.fx),.v (.int .i64 c.ad),.v (.int .i64 c.ins),.x 0 [],.x 1 [],.x 2 [],.x 3 []],.agg [.x 4 [],.x 5 [],.x 6 [],.x 7 []]] [.ext false (.s false 7 c.nodes.length (cN c.nodes)),.ext false (.s false 1 c.gates.length (cI c.gates)),.ext false (.s false 2 c.looks.length (cL c.looks)),.ext false (.s false 2 c.eqs.length (cK c.eqs)),.ext false (.s false 2 p.1.length (cRg p.1)),.ext false (.s false 2 p.2.length (cTa p.2)),.ext false (.s false 6 p.3.length (cLk p.3)),.ext false (.s false 1 p.4.length (cT p.4))] Q:=by
 refine qL Tryz.func7 zXc (zUs c) ?_
 refine qC hm 60 ((zUx c p _ _).mpr ⟨?_⟩)
 exact FOk.loop (p.rg.length+1) (by kernel_rfl) (qUs c p hp Q hq p.rg.length 0 _ (by omega))
noncomputable def zKa:List SV→List HO→Option ((SV→List HO→Prop)→Prop)
 | [.agg [.v (.int .i64 fx),.v (.int .i64 ad),.v (.int .i64 ins),.x 0 [],.x 1 [],.x 2 [],.x 3 []],.agg [.x 4 [],.x 5 [],.x 6 [],.x 7 []]],[.ext false (.s false 7 n0 c0),.ext false (.s false 1 n1 c1),.ext false (.s false 2 n2 c2),.ext false (.s false 2 n3 c3),.ext false (.s false 2 m0 d0),.ext false (.s false 2 m1 d1),.ext false (.s false 6 m2 d2),.ext false (.s false 1 m3 d3)] =>
  some fun Q=>lSh fx ad ins n0 n1 n2 n3 m0 m1 m2 m3 c0 c1 c2 c3 d0 d1 d2 d3 fun c p=>lBo fun b=>Q (.v (.bool b)) []
 | _,_=>none
theorem zGy(args:List SV)(h:List HO)(tr:(SV→List HO→Prop)→Prop)(Q:SV→List HO→Prop)(hc:zKa args h=some tr)(ht:tr Q):qI Tryz.prog 7 args h Q:=by
 unfold zKa at hc
 split at hc
 ·simp only[sI] at hc
  subst hc
  obtain⟨c,rfl,rfl,rfl,⟨rfl,e0⟩,⟨rfl,e1⟩,⟨rfl,e2⟩,⟨rfl,e3⟩,hk,ht2⟩:=ht.h.h
  obtain⟨p,⟨rfl,e4⟩,⟨rfl,e5⟩,⟨rfl,e6⟩,⟨rfl,e7⟩,hp,hq⟩:=ht2.h
  exact qI.ac (zJk c p hp Q hq.h) ⟨⟨rfl,rfl,rfl,rfl,e0⟩,⟨rfl,rfl,rfl,rfl,e1⟩,⟨rfl,rfl,rfl,rfl,e2⟩,⟨rfl,rfl,rfl,rfl,e3⟩,⟨rfl,rfl,rfl,rfl,e4⟩,⟨rfl,rfl,rfl,rfl,e5⟩,⟨rfl,rfl,rfl,rfl,e6⟩,⟨rfl,rfl,rfl,rfl,e7⟩,trivial⟩
 ·cases hc
noncomputable def zHj:Con Tryz.prog:=zZd.add 7 zKa zGy
end Go.Proofs.YtlmjdcbhpffanaaGreat
/- The statements' first line: plain. -/
namespace Go.Pl
open Go.Sx
def alC:Cir:=⟨0,2,0,[],[],[],[]⟩
def alP:Pln:=⟨[(2,[⟨3,0,0,7⟩]),(2,[⟨3,1,0,7⟩]),(2,[⟨3,0,0,7⟩,⟨3,1,0,0⟩])],[],[],[]⟩
theorem zLa:alC.ok where
 f:=by unfold i64; simp only[alC]; omega
 a:=by unfold i64; simp only[alC]; omega
 i:=by unfold i64; simp only[alC]; omega
 n:=by refine⟨?_,by decide⟩; intro x hx; cases hx
 g:=by refine⟨?_,by decide⟩; intro x hx; cases hx
 l:=by refine⟨?_,by decide⟩; intro x hx; cases hx
 e:=by refine⟨?_,by decide⟩; intro x hx; cases hx
theorem zOt:alP.ok where
 r:=by
  refine⟨?_,by decide⟩
  intro x hx
  simp only[alP,List.mem_cons,List.not_mem_nil,or_false] at hx
  rcases hx with rfl | rfl | rfl <;> refine⟨by unfold i64; omega,fun y hy=>?_,by decide⟩ <;> simp only[List.mem_cons,List.not_mem_nil,or_false] at hy
  ·subst hy; simp only[Pt.ok,i64,top]; omega
  ·subst hy; simp only[Pt.ok,i64,top]; omega
  ·rcases hy with rfl | rfl <;> simp only[Pt.ok,i64,top] <;> omega
 t:=by refine⟨?_,by decide⟩; intro x hx; cases hx
 l:=by refine⟨?_,by decide⟩; intro x hx; cases hx
 i:=by refine⟨?_,by decide⟩; intro x hx; cases hx
theorem qYy:qZ alC 3 alP=((⟨[],[[7,0,7],[7,0,0]],[],[]⟩,[0,0,2]),0):=by kernel_rfl
end Go.Pl
namespace Go.Proofs.YtlmjdcbhpffanaaGreat
open Go.Sx Go.Pl
set_option linter.unusedVariables false
set_option maxRecDepth 100000
end Go.Proofs.YtlmjdcbhpffanaaGreat
/- The statements' first line. -/
namespace Go.Proofs.YtlmjdcbhpffanaaGreat
open Go.Sx Go.Pl
set_option linter.unusedVariables false
set_option maxRecDepth 100000
theorem zTs(K:List It→St→Prop)(R:SV→List HO→Prop):W (xwp Tryz.prog X zHj [(31,[])] 60 (qO Tryz.f6 [] []) [] [.at []] ⟨qQ 0 [],[]⟩ K R)=W ((∀ M:Mem,2≤2)∧((∀ M:Mem,2≤2)∧(∀ M:Mem,112≤140737488355328∧2≤140737488355328)∧(∀ M:Mem,2≤2)∧(∀ M:Mem,2≤2)∧((∀ M:Mem,2≤2)∧K [It.one [0,1,1,1] 8 (Array.mk [true,true,true,true,true,true,false,false,false,false,false,false,false,false,false]) 6,.at [1,1,1,1]] (St.mk [(18,.agg [.o 6,.v (Value.slice none 0 0),.v (Value.slice none 0 0),.v (Value.slice none 0 0)]),(17,.o 6),(15,.agg [.v (qA 2),.o 5]),(14,.agg [.v (qA 2),.o 4]),(16,.agg [.v (qA 2),.o 3]),(13,.agg [.v (qA 0),.v (qA 2),.v (qA 0),.v (Value.slice none 0 0),.v (Value.slice none 0 0),.v (Value.slice none 0 0),.v (Value.slice none 0 0)]),(11,.p 1 1),(10,.o 3),(9,.o 2),(8,.agg [.v (qA 3),.v (qA 1),.v (qA 0),.v (qE 0),.v (qE 0),.v (qE 0),.v (qE 0)]),(7,.o 0),(6,.p 1 1),(1,.p 1 0),(5,.agg [.v (qA 2),.o 0]),(0,.v (.bool false))] [.gone,.cells [.v (qA 2),.o 3] 50,HO.row 55 7 1 [.v (qA 3),.v (qA 1),.v (qA 0),.v (qE 0),.v (qE 0),.v (qE 0),.v (qE 0)],.rowc 55 7 2 (.app 1 (.lit 7 [.v (qA 3),.v (qA 0),.v (qA 0),.v (qE 7),.v (qE 0),.v (qE 0),.v (qE 0)]) (.lit 7 [.v (qA 3),.v (qA 1),.v (qA 0),.v (qE 0),.v (qE 0),.v (qE 0),.v (qE 0)])),.rowc 55 7 1 (.lit 7 [.v (qA 3),.v (qA 0),.v (qA 0),.v (qE 7),.v (qE 0),.v (qE 0),.v (qE 0)]),.rowc 55 7 1 (.lit 7 [.v (qA 3),.v (qA 1),.v (qA 0),.v (qE 7),.v (qE 0),.v (qE 0),.v (qE 0)]),HO.row 50 2 3 [.v (qA 2),.o 4,.v (qA 2),.o 5,.v (qA 2),.o 3]])∧K [It.one [0,1,1,1] 7 (Array.mk [true,true,true,true,true,true,false,false,false,false,false,true,false,false,false]) 6,.at [1,1,1,1]] (St.mk [(2,.p 7 0),(18,.agg [.o 6,.v (Value.slice none 0 0),.v (Value.slice none 0 0),.v (Value.slice none 0 0)]),(17,.o 6),(15,.agg [.v (qA 2),.o 5]),(14,.agg [.v (qA 2),.o 4]),(16,.agg [.v (qA 2),.o 3]),(13,.agg [.v (qA 0),.v (qA 2),.v (qA 0),.v (Value.slice none 0 0),.v (Value.slice none 0 0),.v (Value.slice none 0 0),.v (Value.slice none 0 0)]),(11,.p 1 1),(10,.o 3),(9,.o 2),(8,.agg [.v (qA 3),.v (qA 1),.v (qA 0),.v (qE 0),.v (qE 0),.v (qE 0),.v (qE 0)]),(7,.o 0),(6,.p 1 1),(1,.p 1 0),(5,.agg [.v (qA 2),.o 0]),(0,.v (.bool false))] [.gone,.cells [.v (qA 2),.o 3] 50,HO.row 55 7 1 [.v (qA 3),.v (qA 1),.v (qA 0),.v (qE 0),.v (qE 0),.v (qE 0),.v (qE 0)],.rowc 55 7 2 (.app 1 (.lit 7 [.v (qA 3),.v (qA 0),.v (qA 0),.v (qE 7),.v (qE 0),.v (qE 0),.v (qE 0)]) (.lit 7 [.v (qA 3),.v (qA 1),.v (qA 0),.v (qE 0),.v (qE 0),.v (qE 0),.v (qE 0)])),.rowc 55 7 1 (.lit 7 [.v (qA 3),.v (qA 0),.v (qA 0),.v (qE 7),.v (qE 0),.v (qE 0),.v (qE 0)]),.rowc 55 7 1 (.lit 7 [.v (qA 3),.v (qA 1),.v (qA 0),.v (qE 7),.v (qE 0),.v (qE 0),.v (qE 0)]),HO.row 50 2 3 [.v (qA 2),.o 4,.v (qA 2),.o 5,.v (qA 2),.o 3],.cells [.v (Value.slice none 0 0),.v (Value.slice none 0 0),.v (Value.slice none 0 0),.v (Value.slice none 0 0)] 42])∧K [It.one [0,1,1,1] 7 (Array.mk [true,true,true,true,true,true,false,false,false,false,false,true,false,false,false]) 6,.at [1,1,1,1]] (St.mk [(18,.agg [.o 7,.v (Value.slice none 0 0),.v (Value.slice none 0 0),.v (Value.slice none 0 0)]),(17,.o 7),(2,.p 6 0),(15,.agg [.v (qA 2),.o 5]),(14,.agg [.v (qA 2),.o 4]),(16,.agg [.v (qA 2),.o 3]),(13,.agg [.v (qA 0),.v (qA 2),.v (qA 0),.v (Value.slice none 0 0),.v (Value.slice none 0 0),.v (Value.slice none 0 0),.v (Value.slice none 0 0)]),(11,.p 1 1),(10,.o 3),(9,.o 2),(8,.agg [.v (qA 3),.v (qA 1),.v (qA 0),.v (qE 0),.v (qE 0),.v (qE 0),.v (qE 0)]),(7,.o 0),(6,.p 1 1),(1,.p 1 0),(5,.agg [.v (qA 2),.o 0]),(0,.v (.bool false))] [.gone,.cells [.v (qA 2),.o 3] 50,HO.row 55 7 1 [.v (qA 3),.v (qA 1),.v (qA 0),.v (qE 0),.v (qE 0),.v (qE 0),.v (qE 0)],.rowc 55 7 2 (.app 1 (.lit 7 [.v (qA 3),.v (qA 0),.v (qA 0),.v (qE 7),.v (qE 0),.v (qE 0),.v (qE 0)]) (.lit 7 [.v (qA 3),.v (qA 1),.v (qA 0),.v (qE 0),.v (qE 0),.v (qE 0),.v (qE 0)])),.rowc 55 7 1 (.lit 7 [.v (qA 3),.v (qA 0),.v (qA 0),.v (qE 7),.v (qE 0),.v (qE 0),.v (qE 0)]),.rowc 55 7 1 (.lit 7 [.v (qA 3),.v (qA 1),.v (qA 0),.v (qE 7),.v (qE 0),.v (qE 0),.v (qE 0)]),.cells [.v (Value.slice none 0 0),.v (Value.slice none 0 0),.v (Value.slice none 0 0),.v (Value.slice none 0 0)] 42,HO.row 50 2 3 [.v (qA 2),.o 4,.v (qA 2),.o 5,.v (qA 2),.o 3]]))∧(∀ M:Mem,2≤2)∧K [It.one [0,1,1,1] 7 (Array.mk [true,true,true,true,true,true,false,false,false,false,false,true,false,false,false]) 6,.at [1,1,1,1]] (St.mk [(18,.agg [.o 7,.v (Value.slice none 0 0),.v (Value.slice none 0 0),.v (Value.slice none 0 0)]),(17,.o 7),(15,.agg [.v (qA 2),.o 6]),(2,.p 5 0),(14,.agg [.v (qA 2),.o 4]),(16,.agg [.v (qA 2),.o 3]),(13,.agg [.v (qA 0),.v (qA 2),.v (qA 0),.v (Value.slice none 0 0),.v (Value.slice none 0 0),.v (Value.slice none 0 0),.v (Value.slice none 0 0)]),(11,.p 1 1),(10,.o 3),(9,.o 2),(8,.agg [.v (qA 3),.v (qA 1),.v (qA 0),.v (qE 0),.v (qE 0),.v (qE 0),.v (qE 0)]),(7,.o 0),(6,.p 1 1),(1,.p 1 0),(5,.agg [.v (qA 2),.o 0]),(0,.v (.bool false))] [.gone,.cells [.v (qA 2),.o 3] 50,HO.row 55 7 1 [.v (qA 3),.v (qA 1),.v (qA 0),.v (qE 0),.v (qE 0),.v (qE 0),.v (qE 0)],.rowc 55 7 2 (.app 1 (.lit 7 [.v (qA 3),.v (qA 0),.v (qA 0),.v (qE 7),.v (qE 0),.v (qE 0),.v (qE 0)]) (.lit 7 [.v (qA 3),.v (qA 1),.v (qA 0),.v (qE 0),.v (qE 0),.v (qE 0),.v (qE 0)])),.rowc 55 7 1 (.lit 7 [.v (qA 3),.v (qA 0),.v (qA 0),.v (qE 7),.v (qE 0),.v (qE 0),.v (qE 0)]),.cells [.v (Value.slice none 0 0),.v (Value.slice none 0 0),.v (Value.slice none 0 0),.v (Value.slice none 0 0)] 42,.rowc 55 7 1 (.lit 7 [.v (qA 3),.v (qA 1),.v (qA 0),.v (qE 7),.v (qE 0),.v (qE 0),.v (qE 0)]),HO.row 50 2 3 [.v (qA 2),.o 4,.v (qA 2),.o 6,.v (qA 2),.o 3]]))∧(∀ M:Mem,2≤2)∧(∀ M:Mem,112≤140737488355328∧2≤140737488355328)∧(∀ M:Mem,2≤2)∧(∀ M:Mem,2≤2)∧(∀ M:Mem,2≤2)∧K [It.one [0,1,1,1] 7 (Array.mk [true,true,true,true,true,true,false,false,false,false,false,true,false,false,false]) 6,.at [1,1,1,1]] (St.mk [(18,.agg [.o 7,.v (Value.slice none 0 0),.v (Value.slice none 0 0),.v (Value.slice none 0 0)]),(17,.o 7),(15,.agg [.v (qA 2),.o 6]),(14,.agg [.v (qA 2),.o 5]),(2,.p 4 0),(16,.agg [.v (qA 2),.o 3]),(13,.agg [.v (qA 0),.v (qA 2),.v (qA 0),.v (Value.slice none 0 0),.v (Value.slice none 0 0),.v (Value.slice none 0 0),.v (Value.slice none 0 0)]),(11,.p 1 1),(10,.o 3),(9,.o 2),(8,.agg [.v (qA 3),.v (qA 1),.v (qA 0),.v (qE 0),.v (qE 0),.v (qE 0),.v (qE 0)]),(7,.o 0),(6,.p 1 1),(1,.p 1 0),(5,.agg [.v (qA 2),.o 0]),(0,.v (.bool false))] [.gone,.cells [.v (qA 2),.o 3] 50,HO.row 55 7 1 [.v (qA 3),.v (qA 1),.v (qA 0),.v (qE 0),.v (qE 0),.v (qE 0),.v (qE 0)],.rowc 55 7 2 (.app 1 (.lit 7 [.v (qA 3),.v (qA 0),.v (qA 0),.v (qE 7),.v (qE 0),.v (qE 0),.v (qE 0)]) (.lit 7 [.v (qA 3),.v (qA 1),.v (qA 0),.v (qE 0),.v (qE 0),.v (qE 0),.v (qE 0)])),.cells [.v (Value.slice none 0 0),.v (Value.slice none 0 0),.v (Value.slice none 0 0),.v (Value.slice none 0 0)] 42,.rowc 55 7 1 (.lit 7 [.v (qA 3),.v (qA 0),.v (qA 0),.v (qE 7),.v (qE 0),.v (qE 0),.v (qE 0)]),.rowc 55 7 1 (.lit 7 [.v (qA 3),.v (qA 1),.v (qA 0),.v (qE 7),.v (qE 0),.v (qE 0),.v (qE 0)]),HO.row 50 2 3 [.v (qA 2),.o 5,.v (qA 2),.o 6,.v (qA 2),.o 3]])):=by kernel_rfl
theorem zSu(K:List It→St→Prop)(R:SV→List HO→Prop):W (xwp Tryz.prog X zHj [] 60 (qO Tryz.f6 [] []) [] [.one [0,1,1,1] 8 (Array.mk [true,true,true,true,true,true,false,false,false,false,false,false,false,false,false]) 6,.at [1,1,1,1]] (St.mk [(13,.agg [.v (qA 0),.v (qA 2),.v (qA 0),.v (Value.slice none 0 0),.v (Value.slice none 0 0),.v (Value.slice none 0 0),.v (Value.slice none 0 0)]),(18,.agg [.x 0 [],.v (Value.slice none 0 0),.v (Value.slice none 0 0),.v (Value.slice none 0 0)])] [.ext false (.s false 2 3 (cRg alP.1))]) K R)=W (lLy (0:Int) (2:Int) (0:Int) (3:Int) 0 0 0 0 3 0 0 0 (cN []) (cI []) (cL []) (cK []) (cRg [((2:Int),[Pt.mk (3:Int) (0:Int) (0:Int) 7]),((2:Int),[Pt.mk (3:Int) (1:Int) (0:Int) 7]),((2:Int),[Pt.mk (3:Int) (0:Int) (0:Int) 7,Pt.mk (3:Int) (1:Int) (0:Int) 0])]) (cTa []) (cLk []) (cT []) (fun(e:Int)=>(∀ M:Mem,4≤4)∧bif e==(0:Int) then K [It.ops [0,1,1,1,1] 5,.at [1,1,1,1,1]] (St.mk [(27,.o 2),(26,.v (Value.slice none 0 0)),(25,.bl true),(24,.v (.bool (e==(0:Int)))),(23,.v (qA e)),(4,.v (qA e)),(3,.v (Value.slice none 0 0)),(2,.p 1 0),(22,.v (qA e)),(21,.v (Value.slice none 0 0)),(20,.agg [.v (Value.slice none 0 0),.v (Value.slice none 0 0),.v (Value.slice none 0 0),.v (Value.slice none 0 0)]),(12,.tup [.agg [.v (Value.slice none 0 0),.v (Value.slice none 0 0),.v (Value.slice none 0 0),.v (Value.slice none 0 0)],.v (Value.slice none 0 0),.v (qA e)]),(19,.tup [.agg [.v (Value.slice none 0 0),.v (Value.slice none 0 0),.v (Value.slice none 0 0),.v (Value.slice none 0 0)],.v (Value.slice none 0 0),.v (qA e)]),(13,.agg [.v (qA 0),.v (qA 2),.v (qA 0),.v (Value.slice none 0 0),.v (Value.slice none 0 0),.v (Value.slice none 0 0),.v (Value.slice none 0 0)]),(18,.agg [.x 0 [],.v (Value.slice none 0 0),.v (Value.slice none 0 0),.v (Value.slice none 0 0)])] [.ext false (.s false 2 3 (cRg [((2:Int),[Pt.mk (3:Int) (0:Int) (0:Int) 7]),((2:Int),[Pt.mk (3:Int) (1:Int) (0:Int) 7]),((2:Int),[Pt.mk (3:Int) (0:Int) (0:Int) 7,Pt.mk (3:Int) (1:Int) (0:Int) 0])])),.cells [.v (Value.slice none 0 0),.v (Value.slice none 0 0),.v (Value.slice none 0 0),.v (Value.slice none 0 0)] 42,HO.row 3 1 3 [.v (qA 0),.v (qA 0),.v (qA 2)]]) else R (.v (.bool false)) []) fun(s:Sht) (ss:List Int)=>(∀ M:Mem,4≤4)∧lI2 ss.length 3 (cI ss) (lc 1 [.v (qA 0),.v (qA 0),.v (qA 2)]) fun(l l2:List Int)=>bif decide (l=l2) then bif(↑s.2.length:Int)==(2:Int) then(∀ M:Mem,(0:Int)≤(0:Int)∧(0:Int)<(↑s.2.length:Int))∧(∀ M:Mem,0<List.length s.2)∧(∀ M:Mem,0<List.length s.2)∧bif(↑(List.length (gT s.2 0)):Int)==(3:Int) then(∀ M:Mem,(0:Int)≤(0:Int)∧(0:Int)<(↑s.2.length:Int))∧(∀ M:Mem,0<List.length s.2)∧(∀ M:Mem,0<List.length s.2)∧(∀ M:Mem,(0:Int)≤(2:Int)∧(2:Int)<(↑(List.length (gT s.2 0)):Int))∧(∀ M:Mem,0<List.length s.2)∧(∀ M:Mem,2<List.length (gT s.2 0))∧R (.v (.bool (decide ((eI (gE (gT s.2 0) 2))=[(7:Int),(0:Int),(0:Int),(0:Int)])))) [] else R (.v (.bool false)) [] else R (.v (.bool false)) [] else R (.v (.bool false)) []):=by kernel_rfl
theorem zTq(K:List It→St→Prop)(R:SV→List HO→Prop):W (xwp Tryz.prog X zHj [] 60 (qO Tryz.f6 [] []) [] [.one [0,1,1,1] 7 (Array.mk [true,true,true,true,true,true,false,false,false,false,false,true,false,false,false]) 6,.at [1,1,1,1]] (St.mk [(13,.agg [.v (qA 0),.v (qA 2),.v (qA 0),.v (Value.slice none 0 0),.v (Value.slice none 0 0),.v (Value.slice none 0 0),.v (Value.slice none 0 0)]),(18,.agg [.x 0 [],.v (Value.slice none 0 0),.v (Value.slice none 0 0),.v (Value.slice none 0 0)]),(2,.p 1 0)] [.ext false (.s false 2 3 (cRg alP.1)),.cells [.v (Value.slice none 0 0),.v (Value.slice none 0 0),.v (Value.slice none 0 0),.v (Value.slice none 0 0)] 42]) K R)=W (lLy (0:Int) (2:Int) (0:Int) (3:Int) 0 0 0 0 3 0 0 0 (cN []) (cI []) (cL []) (cK []) (cRg [((2:Int),[Pt.mk (3:Int) (0:Int) (0:Int) 7]),((2:Int),[Pt.mk (3:Int) (1:Int) (0:Int) 7]),((2:Int),[Pt.mk (3:Int) (0:Int) (0:Int) 7,Pt.mk (3:Int) (1:Int) (0:Int) 0])]) (cTa []) (cLk []) (cT []) (fun(e:Int)=>(∀ M:Mem,4≤4)∧bif e==(0:Int) then K [It.ops [0,1,1,1,1] 5,.at [1,1,1,1,1]] (St.mk [(27,.o 2),(26,.v (Value.slice none 0 0)),(25,.bl true),(24,.v (.bool (e==(0:Int)))),(23,.v (qA e)),(4,.v (qA e)),(3,.v (Value.slice none 0 0)),(22,.v (qA e)),(21,.v (Value.slice none 0 0)),(20,.agg [.v (Value.slice none 0 0),.v (Value.slice none 0 0),.v (Value.slice none 0 0),.v (Value.slice none 0 0)]),(12,.tup [.agg [.v (Value.slice none 0 0),.v (Value.slice none 0 0),.v (Value.slice none 0 0),.v (Value.slice none 0 0)],.v (Value.slice none 0 0),.v (qA e)]),(19,.tup [.agg [.v (Value.slice none 0 0),.v (Value.slice none 0 0),.v (Value.slice none 0 0),.v (Value.slice none 0 0)],.v (Value.slice none 0 0),.v (qA e)]),(13,.agg [.v (qA 0),.v (qA 2),.v (qA 0),.v (Value.slice none 0 0),.v (Value.slice none 0 0),.v (Value.slice none 0 0),.v (Value.slice none 0 0)]),(18,.agg [.x 0 [],.v (Value.slice none 0 0),.v (Value.slice none 0 0),.v (Value.slice none 0 0)]),(2,.p 1 0)] [.ext false (.s false 2 3 (cRg [((2:Int),[Pt.mk (3:Int) (0:Int) (0:Int) 7]),((2:Int),[Pt.mk (3:Int) (1:Int) (0:Int) 7]),((2:Int),[Pt.mk (3:Int) (0:Int) (0:Int) 7,Pt.mk (3:Int) (1:Int) (0:Int) 0])])),.cells [.v (Value.slice none 0 0),.v (Value.slice none 0 0),.v (Value.slice none 0 0),.v (Value.slice none 0 0)] 42,HO.row 3 1 3 [.v (qA 0),.v (qA 0),.v (qA 2)]]) else R (.v (.bool false)) []) fun(s:Sht) (ss:List Int)=>(∀ M:Mem,4≤4)∧lI2 ss.length 3 (cI ss) (lc 1 [.v (qA 0),.v (qA 0),.v (qA 2)]) fun(l l2:List Int)=>bif decide (l=l2) then bif(↑s.2.length:Int)==(2:Int) then(∀ M:Mem,(0:Int)≤(0:Int)∧(0:Int)<(↑s.2.length:Int))∧(∀ M:Mem,0<List.length s.2)∧(∀ M:Mem,0<List.length s.2)∧bif(↑(List.length (gT s.2 0)):Int)==(3:Int) then(∀ M:Mem,(0:Int)≤(0:Int)∧(0:Int)<(↑s.2.length:Int))∧(∀ M:Mem,0<List.length s.2)∧(∀ M:Mem,0<List.length s.2)∧(∀ M:Mem,(0:Int)≤(2:Int)∧(2:Int)<(↑(List.length (gT s.2 0)):Int))∧(∀ M:Mem,0<List.length s.2)∧(∀ M:Mem,2<List.length (gT s.2 0))∧R (.v (.bool (decide ((eI (gE (gT s.2 0) 2))=[(7:Int),(0:Int),(0:Int),(0:Int)])))) [] else R (.v (.bool false)) [] else R (.v (.bool false)) [] else R (.v (.bool false)) []):=by kernel_rfl
theorem zBv:IsC 1 7 (Ct.lit 7 [qB.v (qA (3:Int)),qB.v (qA (0:Int)),qB.v (qA (0:Int)),qB.v (qE (7:Int)),qB.v (qE (0:Int)),qB.v (qE (0:Int)),qB.v (qE (0:Int))]).at (Ct.fn (cPt [⟨3,0,0,7⟩])).at:=by
 obtain⟨a7_0,a7_1,a7_2,a7_3⟩:=qDn 7 (by omega)
 intro k hk j hj
 match k,hk,j,hj with
 | 0,_,0,_=>show Ct.at (Ct.lit 7 [qB.v (qA (3:Int)),qB.v (qA (0:Int)),qB.v (qA (0:Int)),qB.v (qE (7:Int)),qB.v (qE (0:Int)),qB.v (qE (0:Int)),qB.v (qE (0:Int))]) 0 0=Ct.at (Ct.fn (cPt [⟨3,0,0,7⟩])) 0 0; kernel_rfl
 | 0,_,1,_=>show Ct.at (Ct.lit 7 [qB.v (qA (3:Int)),qB.v (qA (0:Int)),qB.v (qA (0:Int)),qB.v (qE (7:Int)),qB.v (qE (0:Int)),qB.v (qE (0:Int)),qB.v (qE (0:Int))]) 0 1=Ct.at (Ct.fn (cPt [⟨3,0,0,7⟩])) 0 1; kernel_rfl
 | 0,_,2,_=>show Ct.at (Ct.lit 7 [qB.v (qA (3:Int)),qB.v (qA (0:Int)),qB.v (qA (0:Int)),qB.v (qE (7:Int)),qB.v (qE (0:Int)),qB.v (qE (0:Int)),qB.v (qE (0:Int))]) 0 2=Ct.at (Ct.fn (cPt [⟨3,0,0,7⟩])) 0 2; kernel_rfl
 | 0,_,3,_=>show qB.v (qE (7:Int))=qB.v (.int .u64 ((qF 7 0:Nat):Int)); rw[a7_0]; rfl
 | 0,_,4,_=>show qB.v (qE (0:Int))=qB.v (.int .u64 ((qF 7 1:Nat):Int)); rw[a7_1]; rfl
 | 0,_,5,_=>show qB.v (qE (0:Int))=qB.v (.int .u64 ((qF 7 2:Nat):Int)); rw[a7_2]; rfl
 | 0,_,6,_=>show qB.v (qE (0:Int))=qB.v (.int .u64 ((qF 7 3:Nat):Int)); rw[a7_3]; rfl
theorem zDd:IsC 1 7 (Ct.lit 7 [qB.v (qA (3:Int)),qB.v (qA (1:Int)),qB.v (qA (0:Int)),qB.v (qE (7:Int)),qB.v (qE (0:Int)),qB.v (qE (0:Int)),qB.v (qE (0:Int))]).at (Ct.fn (cPt [⟨3,1,0,7⟩])).at:=by
 obtain⟨a7_0,a7_1,a7_2,a7_3⟩:=qDn 7 (by omega)
 intro k hk j hj
 match k,hk,j,hj with
 | 0,_,0,_=>show Ct.at (Ct.lit 7 [qB.v (qA (3:Int)),qB.v (qA (1:Int)),qB.v (qA (0:Int)),qB.v (qE (7:Int)),qB.v (qE (0:Int)),qB.v (qE (0:Int)),qB.v (qE (0:Int))]) 0 0=Ct.at (Ct.fn (cPt [⟨3,1,0,7⟩])) 0 0; kernel_rfl
 | 0,_,1,_=>show Ct.at (Ct.lit 7 [qB.v (qA (3:Int)),qB.v (qA (1:Int)),qB.v (qA (0:Int)),qB.v (qE (7:Int)),qB.v (qE (0:Int)),qB.v (qE (0:Int)),qB.v (qE (0:Int))]) 0 1=Ct.at (Ct.fn (cPt [⟨3,1,0,7⟩])) 0 1; kernel_rfl
 | 0,_,2,_=>show Ct.at (Ct.lit 7 [qB.v (qA (3:Int)),qB.v (qA (1:Int)),qB.v (qA (0:Int)),qB.v (qE (7:Int)),qB.v (qE (0:Int)),qB.v (qE (0:Int)),qB.v (qE (0:Int))]) 0 2=Ct.at (Ct.fn (cPt [⟨3,1,0,7⟩])) 0 2; kernel_rfl
 | 0,_,3,_=>show qB.v (qE (7:Int))=qB.v (.int .u64 ((qF 7 0:Nat):Int)); rw[a7_0]; rfl
 | 0,_,4,_=>show qB.v (qE (0:Int))=qB.v (.int .u64 ((qF 7 1:Nat):Int)); rw[a7_1]; rfl
 | 0,_,5,_=>show qB.v (qE (0:Int))=qB.v (.int .u64 ((qF 7 2:Nat):Int)); rw[a7_2]; rfl
 | 0,_,6,_=>show qB.v (qE (0:Int))=qB.v (.int .u64 ((qF 7 3:Nat):Int)); rw[a7_3]; rfl
theorem zCp:IsC 2 7 (Ct.app 1 (Ct.lit 7 [qB.v (qA (3:Int)),qB.v (qA (0:Int)),qB.v (qA (0:Int)),qB.v (qE (7:Int)),qB.v (qE (0:Int)),qB.v (qE (0:Int)),qB.v (qE (0:Int))]) (Ct.lit 7 [qB.v (qA (3:Int)),qB.v (qA (1:Int)),qB.v (qA (0:Int)),qB.v (qE (0:Int)),qB.v (qE (0:Int)),qB.v (qE (0:Int)),qB.v (qE (0:Int))])).at (Ct.fn (cPt [⟨3,0,0,7⟩,⟨3,1,0,0⟩])).at:=by
 obtain⟨a0_0,a0_1,a0_2,a0_3⟩:=qDn 0 (by omega)
 obtain⟨a7_0,a7_1,a7_2,a7_3⟩:=qDn 7 (by omega)
 intro k hk j hj
 match k,hk,j,hj with
 | 0,_,0,_=>show Ct.at (Ct.app 1 (Ct.lit 7 [qB.v (qA (3:Int)),qB.v (qA (0:Int)),qB.v (qA (0:Int)),qB.v (qE (7:Int)),qB.v (qE (0:Int)),qB.v (qE (0:Int)),qB.v (qE (0:Int))]) (Ct.lit 7 [qB.v (qA (3:Int)),qB.v (qA (1:Int)),qB.v (qA (0:Int)),qB.v (qE (0:Int)),qB.v (qE (0:Int)),qB.v (qE (0:Int)),qB.v (qE (0:Int))])) 0 0=Ct.at (Ct.fn (cPt [⟨3,0,0,7⟩,⟨3,1,0,0⟩])) 0 0; kernel_rfl
 | 0,_,1,_=>show Ct.at (Ct.app 1 (Ct.lit 7 [qB.v (qA (3:Int)),qB.v (qA (0:Int)),qB.v (qA (0:Int)),qB.v (qE (7:Int)),qB.v (qE (0:Int)),qB.v (qE (0:Int)),qB.v (qE (0:Int))]) (Ct.lit 7 [qB.v (qA (3:Int)),qB.v (qA (1:Int)),qB.v (qA (0:Int)),qB.v (qE (0:Int)),qB.v (qE (0:Int)),qB.v (qE (0:Int)),qB.v (qE (0:Int))])) 0 1=Ct.at (Ct.fn (cPt [⟨3,0,0,7⟩,⟨3,1,0,0⟩])) 0 1; kernel_rfl
 | 0,_,2,_=>show Ct.at (Ct.app 1 (Ct.lit 7 [qB.v (qA (3:Int)),qB.v (qA (0:Int)),qB.v (qA (0:Int)),qB.v (qE (7:Int)),qB.v (qE (0:Int)),qB.v (qE (0:Int)),qB.v (qE (0:Int))]) (Ct.lit 7 [qB.v (qA (3:Int)),qB.v (qA (1:Int)),qB.v (qA (0:Int)),qB.v (qE (0:Int)),qB.v (qE (0:Int)),qB.v (qE (0:Int)),qB.v (qE (0:Int))])) 0 2=Ct.at (Ct.fn (cPt [⟨3,0,0,7⟩,⟨3,1,0,0⟩])) 0 2; kernel_rfl
 | 0,_,3,_=>show qB.v (qE (7:Int))=qB.v (.int .u64 ((qF 7 0:Nat):Int)); rw[a7_0]; rfl
 | 0,_,4,_=>show qB.v (qE (0:Int))=qB.v (.int .u64 ((qF 7 1:Nat):Int)); rw[a7_1]; rfl
 | 0,_,5,_=>show qB.v (qE (0:Int))=qB.v (.int .u64 ((qF 7 2:Nat):Int)); rw[a7_2]; rfl
 | 0,_,6,_=>show qB.v (qE (0:Int))=qB.v (.int .u64 ((qF 7 3:Nat):Int)); rw[a7_3]; rfl
 | 1,_,0,_=>show Ct.at (Ct.app 1 (Ct.lit 7 [qB.v (qA (3:Int)),qB.v (qA (0:Int)),qB.v (qA (0:Int)),qB.v (qE (7:Int)),qB.v (qE (0:Int)),qB.v (qE (0:Int)),qB.v (qE (0:Int))]) (Ct.lit 7 [qB.v (qA (3:Int)),qB.v (qA (1:Int)),qB.v (qA (0:Int)),qB.v (qE (0:Int)),qB.v (qE (0:Int)),qB.v (qE (0:Int)),qB.v (qE (0:Int))])) 1 0=Ct.at (Ct.fn (cPt [⟨3,0,0,7⟩,⟨3,1,0,0⟩])) 1 0; kernel_rfl
 | 1,_,1,_=>show Ct.at (Ct.app 1 (Ct.lit 7 [qB.v (qA (3:Int)),qB.v (qA (0:Int)),qB.v (qA (0:Int)),qB.v (qE (7:Int)),qB.v (qE (0:Int)),qB.v (qE (0:Int)),qB.v (qE (0:Int))]) (Ct.lit 7 [qB.v (qA (3:Int)),qB.v (qA (1:Int)),qB.v (qA (0:Int)),qB.v (qE (0:Int)),qB.v (qE (0:Int)),qB.v (qE (0:Int)),qB.v (qE (0:Int))])) 1 1=Ct.at (Ct.fn (cPt [⟨3,0,0,7⟩,⟨3,1,0,0⟩])) 1 1; kernel_rfl
 | 1,_,2,_=>show Ct.at (Ct.app 1 (Ct.lit 7 [qB.v (qA (3:Int)),qB.v (qA (0:Int)),qB.v (qA (0:Int)),qB.v (qE (7:Int)),qB.v (qE (0:Int)),qB.v (qE (0:Int)),qB.v (qE (0:Int))]) (Ct.lit 7 [qB.v (qA (3:Int)),qB.v (qA (1:Int)),qB.v (qA (0:Int)),qB.v (qE (0:Int)),qB.v (qE (0:Int)),qB.v (qE (0:Int)),qB.v (qE (0:Int))])) 1 2=Ct.at (Ct.fn (cPt [⟨3,0,0,7⟩,⟨3,1,0,0⟩])) 1 2; kernel_rfl
 | 1,_,3,_=>show qB.v (qE (0:Int))=qB.v (.int .u64 ((qF 0 0:Nat):Int)); rw[a0_0]; rfl
 | 1,_,4,_=>show qB.v (qE (0:Int))=qB.v (.int .u64 ((qF 0 1:Nat):Int)); rw[a0_1]; rfl
 | 1,_,5,_=>show qB.v (qE (0:Int))=qB.v (.int .u64 ((qF 0 2:Nat):Int)); rw[a0_2]; rfl
 | 1,_,6,_=>show qB.v (qE (0:Int))=qB.v (.int .u64 ((qF 0 3:Nat):Int)); rw[a0_3]; rfl
theorem zJb:IsC 3 2 (Ct.lit 2 [qB.v (qA (2:Int)),qB.s false 7 1 (cPt [Pt.mk (3:Int) (0:Int) (0:Int) 7]),qB.v (qA (2:Int)),qB.s false 7 1 (cPt [Pt.mk (3:Int) (1:Int) (0:Int) 7]),qB.v (qA (2:Int)),qB.s false 7 2 (cPt [Pt.mk (3:Int) (0:Int) (0:Int) 7,Pt.mk (3:Int) (1:Int) (0:Int) 0])]).at (Ct.fn (cRg alP.rg)).at:=by
 intro k hk j hj
 match k,hk,j,hj with
 | 0,_,0,_=>show Ct.at (Ct.lit 2 [qB.v (qA (2:Int)),qB.s false 7 1 (cPt [Pt.mk (3:Int) (0:Int) (0:Int) 7]),qB.v (qA (2:Int)),qB.s false 7 1 (cPt [Pt.mk (3:Int) (1:Int) (0:Int) 7]),qB.v (qA (2:Int)),qB.s false 7 2 (cPt [Pt.mk (3:Int) (0:Int) (0:Int) 7,Pt.mk (3:Int) (1:Int) (0:Int) 0])]) 0 0=Ct.at (Ct.fn (cRg alP.rg)) 0 0; kernel_rfl
 | 0,_,1,_=>show Ct.at (Ct.lit 2 [qB.v (qA (2:Int)),qB.s false 7 1 (cPt [Pt.mk (3:Int) (0:Int) (0:Int) 7]),qB.v (qA (2:Int)),qB.s false 7 1 (cPt [Pt.mk (3:Int) (1:Int) (0:Int) 7]),qB.v (qA (2:Int)),qB.s false 7 2 (cPt [Pt.mk (3:Int) (0:Int) (0:Int) 7,Pt.mk (3:Int) (1:Int) (0:Int) 0])]) 0 1=Ct.at (Ct.fn (cRg alP.rg)) 0 1; kernel_rfl
 | 1,_,0,_=>show Ct.at (Ct.lit 2 [qB.v (qA (2:Int)),qB.s false 7 1 (cPt [Pt.mk (3:Int) (0:Int) (0:Int) 7]),qB.v (qA (2:Int)),qB.s false 7 1 (cPt [Pt.mk (3:Int) (1:Int) (0:Int) 7]),qB.v (qA (2:Int)),qB.s false 7 2 (cPt [Pt.mk (3:Int) (0:Int) (0:Int) 7,Pt.mk (3:Int) (1:Int) (0:Int) 0])]) 1 0=Ct.at (Ct.fn (cRg alP.rg)) 1 0; kernel_rfl
 | 1,_,1,_=>show Ct.at (Ct.lit 2 [qB.v (qA (2:Int)),qB.s false 7 1 (cPt [Pt.mk (3:Int) (0:Int) (0:Int) 7]),qB.v (qA (2:Int)),qB.s false 7 1 (cPt [Pt.mk (3:Int) (1:Int) (0:Int) 7]),qB.v (qA (2:Int)),qB.s false 7 2 (cPt [Pt.mk (3:Int) (0:Int) (0:Int) 7,Pt.mk (3:Int) (1:Int) (0:Int) 0])]) 1 1=Ct.at (Ct.fn (cRg alP.rg)) 1 1; kernel_rfl
 | 2,_,0,_=>show Ct.at (Ct.lit 2 [qB.v (qA (2:Int)),qB.s false 7 1 (cPt [Pt.mk (3:Int) (0:Int) (0:Int) 7]),qB.v (qA (2:Int)),qB.s false 7 1 (cPt [Pt.mk (3:Int) (1:Int) (0:Int) 7]),qB.v (qA (2:Int)),qB.s false 7 2 (cPt [Pt.mk (3:Int) (0:Int) (0:Int) 7,Pt.mk (3:Int) (1:Int) (0:Int) 0])]) 2 0=Ct.at (Ct.fn (cRg alP.rg)) 2 0; kernel_rfl
 | 2,_,1,_=>show Ct.at (Ct.lit 2 [qB.v (qA (2:Int)),qB.s false 7 1 (cPt [Pt.mk (3:Int) (0:Int) (0:Int) 7]),qB.v (qA (2:Int)),qB.s false 7 1 (cPt [Pt.mk (3:Int) (1:Int) (0:Int) 7]),qB.v (qA (2:Int)),qB.s false 7 2 (cPt [Pt.mk (3:Int) (0:Int) (0:Int) 7,Pt.mk (3:Int) (1:Int) (0:Int) 0])]) 2 1=Ct.at (Ct.fn (cRg alP.rg)) 2 1; kernel_rfl
theorem zIs:eI 7=[(7:Int),(0:Int),(0:Int),(0:Int)]:=by
 obtain⟨a0,a1,a2,a3⟩:=qDn 7 (by omega)
 rw[eI,a0,a1,a2,a3]; rfl
theorem zJa:IsC 3 1 (lc 1 [qB.v (qA (0:Int)),qB.v (qA (0:Int)),qB.v (qA (2:Int))]) (cI [0,0,2]):=by
 intro k hk j hj
 match k,hk,j,hj with
 | 0,_,0,_=>show(lc 1 [qB.v (qA (0:Int)),qB.v (qA (0:Int)),qB.v (qA (2:Int))]) 0 0=cI [0,0,2] 0 0; kernel_rfl
 | 1,_,0,_=>show(lc 1 [qB.v (qA (0:Int)),qB.v (qA (0:Int)),qB.v (qA (2:Int))]) 1 0=cI [0,0,2] 1 0; kernel_rfl
 | 2,_,0,_=>show(lc 1 [qB.v (qA (0:Int)),qB.v (qA (0:Int)),qB.v (qA (2:Int))]) 2 0=cI [0,0,2] 2 0; kernel_rfl
theorem qTn{kE:Int→Prop}{kS:Sht→List Int→Prop}(h:kS ⟨[],[[7,0,7],[7,0,0]],[],[]⟩ [0,0,2]):lLy (0:Int) (2:Int) (0:Int) (3:Int) 0 0 0 0 3 0 0 0 (cN []) (cI []) (cL []) (cK []) (cRg [((2:Int),[Pt.mk (3:Int) (0:Int) (0:Int) 7]),((2:Int),[Pt.mk (3:Int) (1:Int) (0:Int) 7]),((2:Int),[Pt.mk (3:Int) (0:Int) (0:Int) 7,Pt.mk (3:Int) (1:Int) (0:Int) 0])]) (cTa []) (cLk []) (cT []) kE kS:=by
 have:=jX alC zLa alP zOt (k:=fun c p=>((qZ c 3 p).2≠0→kE (qZ c 3 p).2)∧((qZ c 3 p).2=0→kS (qZ c 3 p).1.1 (qZ c 3 p).1.2)) ⟨fun hh=>absurd (by rw[qYy]) hh,fun _=>by rw[qYy]; exact h⟩
 exact⟨this⟩
theorem zNa(Q:SV→List HO→Prop)(hq:Q (.v (.bool true)) []):FOk Tryz.prog Tryz.f6 Q [.one [0,1,1,1] 8 (Array.mk [true,true,true,true,true,true,false,false,false,false,false,false,false,false,false]) 6,.at [1,1,1,1]] (St.mk [(13,SV.agg [SV.v (qA (0:Int)),SV.v (qA (2:Int)),SV.v (qA (0:Int)),SV.v (Value.slice none 0 0),SV.v (Value.slice none 0 0),SV.v (Value.slice none 0 0),SV.v (Value.slice none 0 0)]),(18,SV.agg [SV.o 0,SV.v (Value.slice none 0 0),SV.v (Value.slice none 0 0),SV.v (Value.slice none 0 0)])] [HO.row 50 2 3 [SV.v (qA (2:Int)),SV.o 1,SV.v (qA (2:Int)),SV.o 2,SV.v (qA (2:Int)),SV.o 3],HO.rowc 55 7 1 (Ct.lit 7 [qB.v (qA (3:Int)),qB.v (qA (0:Int)),qB.v (qA (0:Int)),qB.v (qE (7:Int)),qB.v (qE (0:Int)),qB.v (qE (0:Int)),qB.v (qE (0:Int))]),HO.rowc 55 7 1 (Ct.lit 7 [qB.v (qA (3:Int)),qB.v (qA (1:Int)),qB.v (qA (0:Int)),qB.v (qE (7:Int)),qB.v (qE (0:Int)),qB.v (qE (0:Int)),qB.v (qE (0:Int))]),HO.rowc 55 7 2 (Ct.app 1 (Ct.lit 7 [qB.v (qA (3:Int)),qB.v (qA (0:Int)),qB.v (qA (0:Int)),qB.v (qE (7:Int)),qB.v (qE (0:Int)),qB.v (qE (0:Int)),qB.v (qE (0:Int))]) (Ct.lit 7 [qB.v (qA (3:Int)),qB.v (qA (1:Int)),qB.v (qA (0:Int)),qB.v (qE (0:Int)),qB.v (qE (0:Int)),qB.v (qE (0:Int)),qB.v (qE (0:Int))]))]):=by
 refine FOk.cv (h':=(St.heap (St.mk [(13,SV.agg [SV.v (qA (0:Int)),SV.v (qA (2:Int)),SV.v (qA (0:Int)),SV.v (Value.slice none 0 0),SV.v (Value.slice none 0 0),SV.v (Value.slice none 0 0),SV.v (Value.slice none 0 0)]),(18,SV.agg [SV.o 0,SV.v (Value.slice none 0 0),SV.v (Value.slice none 0 0),SV.v (Value.slice none 0 0)])] [HO.row 50 2 3 [SV.v (qA (2:Int)),SV.o 1,SV.v (qA (2:Int)),SV.o 2,SV.v (qA (2:Int)),SV.o 3],HO.rowc 55 7 1 (Ct.fn (cPt [⟨3,0,0,7⟩])),HO.rowc 55 7 1 (Ct.fn (cPt [⟨3,1,0,7⟩])),HO.rowc 55 7 2 (Ct.fn (cPt [⟨3,0,0,7⟩,⟨3,1,0,0⟩]))]))) ?_ ⟨HE.refl _,⟨rfl,rfl,rfl,zBv⟩,⟨rfl,rfl,rfl,zDd⟩,⟨rfl,rfl,rfl,zCp⟩,trivial⟩
 refine FOk.frzH 3 rfl (FOk.frzH 2 rfl (FOk.frzH 1 rfl ?_))
 refine FOk.norm (ks:=[13,18]) (nl:=[]) (st':=(St.mk [(13,SV.agg [SV.v (qA (0:Int)),SV.v (qA (2:Int)),SV.v (qA (0:Int)),SV.v (Value.slice none 0 0),SV.v (Value.slice none 0 0),SV.v (Value.slice none 0 0),SV.v (Value.slice none 0 0)]),(18,SV.agg [SV.o 0,SV.v (Value.slice none 0 0),SV.v (Value.slice none 0 0),SV.v (Value.slice none 0 0)])] [HO.rowc 50 2 3 (Ct.lit 2 [qB.v (qA (2:Int)),qB.s false 7 1 (cPt [Pt.mk (3:Int) (0:Int) (0:Int) 7]),qB.v (qA (2:Int)),qB.s false 7 1 (cPt [Pt.mk (3:Int) (1:Int) (0:Int) 7]),qB.v (qA (2:Int)),qB.s false 7 2 (cPt [Pt.mk (3:Int) (0:Int) (0:Int) 7,Pt.mk (3:Int) (1:Int) (0:Int) 0])])])) (by kernel_rfl) ?_
 refine FOk.cv (h':=(St.heap (St.mk [(13,SV.agg [SV.v (qA (0:Int)),SV.v (qA (2:Int)),SV.v (qA (0:Int)),SV.v (Value.slice none 0 0),SV.v (Value.slice none 0 0),SV.v (Value.slice none 0 0),SV.v (Value.slice none 0 0)]),(18,SV.agg [SV.o 0,SV.v (Value.slice none 0 0),SV.v (Value.slice none 0 0),SV.v (Value.slice none 0 0)])] [HO.rowc 50 2 3 (Ct.fn (cRg alP.1))]))) ?_ ⟨⟨rfl,rfl,rfl,zJb⟩,trivial⟩
 refine FOk.frz 0 rfl ?_
 refine FOk.norm (ks:=[13,18]) (nl:=[]) (st':=(St.mk [(13,SV.agg [SV.v (qA (0:Int)),SV.v (qA (2:Int)),SV.v (qA (0:Int)),SV.v (Value.slice none 0 0),SV.v (Value.slice none 0 0),SV.v (Value.slice none 0 0),SV.v (Value.slice none 0 0)]),(18,SV.agg [SV.x 0 [],SV.v (Value.slice none 0 0),SV.v (Value.slice none 0 0),SV.v (Value.slice none 0 0)])] [HO.ext false (qB.s false 2 3 (cRg alP.1))])) (by kernel_rfl) ?_
 refine qC hm 60 ((zSu _ _).mpr ⟨qTn (And.intro (fun _=>Nat.le_refl 4) ⟨⟨[0,0,2],[0,0,2],rfl,IsC.refl _ _ _,rfl,zJa,by decide,?_⟩⟩)⟩)
 rw[decide_eq_true rfl]
 refine And.intro (fun _=>by decide) (And.intro (fun _=>by decide) (And.intro (fun _=>by decide) (And.intro (fun _=>by decide) (And.intro (fun _=>by decide) (And.intro (fun _=>by decide) (And.intro (fun _=>by decide) (And.intro (fun _=>by decide) (And.intro (fun _=>by decide) ?_))))))))
 show Q (SV.v (Value.bool (decide (eI 7=[(7:Int),(0:Int),(0:Int),(0:Int)])))) []
 rw[decide_eq_true zIs]
 exact hq
theorem zLr(Q:SV→List HO→Prop)(hq:Q (.v (.bool true)) []):FOk Tryz.prog Tryz.f6 Q [.one [0,1,1,1] 7 (Array.mk [true,true,true,true,true,true,false,false,false,false,false,true,false,false,false]) 6,.at [1,1,1,1]] (St.mk [(13,SV.agg [SV.v (qA (0:Int)),SV.v (qA (2:Int)),SV.v (qA (0:Int)),SV.v (Value.slice none 0 0),SV.v (Value.slice none 0 0),SV.v (Value.slice none 0 0),SV.v (Value.slice none 0 0)]),(18,SV.agg [SV.o 0,SV.v (Value.slice none 0 0),SV.v (Value.slice none 0 0),SV.v (Value.slice none 0 0)]),(2,SV.p 1 0)] [HO.row 50 2 3 [SV.v (qA (2:Int)),SV.o 2,SV.v (qA (2:Int)),SV.o 3,SV.v (qA (2:Int)),SV.o 4],HO.cells [SV.v (Value.slice none 0 0),SV.v (Value.slice none 0 0),SV.v (Value.slice none 0 0),SV.v (Value.slice none 0 0)] 42,HO.rowc 55 7 1 (Ct.lit 7 [qB.v (qA (3:Int)),qB.v (qA (0:Int)),qB.v (qA (0:Int)),qB.v (qE (7:Int)),qB.v (qE (0:Int)),qB.v (qE (0:Int)),qB.v (qE (0:Int))]),HO.rowc 55 7 1 (Ct.lit 7 [qB.v (qA (3:Int)),qB.v (qA (1:Int)),qB.v (qA (0:Int)),qB.v (qE (7:Int)),qB.v (qE (0:Int)),qB.v (qE (0:Int)),qB.v (qE (0:Int))]),HO.rowc 55 7 2 (Ct.app 1 (Ct.lit 7 [qB.v (qA (3:Int)),qB.v (qA (0:Int)),qB.v (qA (0:Int)),qB.v (qE (7:Int)),qB.v (qE (0:Int)),qB.v (qE (0:Int)),qB.v (qE (0:Int))]) (Ct.lit 7 [qB.v (qA (3:Int)),qB.v (qA (1:Int)),qB.v (qA (0:Int)),qB.v (qE (0:Int)),qB.v (qE (0:Int)),qB.v (qE (0:Int)),qB.v (qE (0:Int))]))]):=by
 refine FOk.cv (h':=(St.heap (St.mk [(13,SV.agg [SV.v (qA (0:Int)),SV.v (qA (2:Int)),SV.v (qA (0:Int)),SV.v (Value.slice none 0 0),SV.v (Value.slice none 0 0),SV.v (Value.slice none 0 0),SV.v (Value.slice none 0 0)]),(18,SV.agg [SV.o 0,SV.v (Value.slice none 0 0),SV.v (Value.slice none 0 0),SV.v (Value.slice none 0 0)]),(2,SV.p 1 0)] [HO.row 50 2 3 [SV.v (qA (2:Int)),SV.o 2,SV.v (qA (2:Int)),SV.o 3,SV.v (qA (2:Int)),SV.o 4],HO.cells [SV.v (Value.slice none 0 0),SV.v (Value.slice none 0 0),SV.v (Value.slice none 0 0),SV.v (Value.slice none 0 0)] 42,HO.rowc 55 7 1 (Ct.fn (cPt [⟨3,0,0,7⟩])),HO.rowc 55 7 1 (Ct.fn (cPt [⟨3,1,0,7⟩])),HO.rowc 55 7 2 (Ct.fn (cPt [⟨3,0,0,7⟩,⟨3,1,0,0⟩]))]))) ?_ ⟨HE.refl _,HE.refl _,⟨rfl,rfl,rfl,zBv⟩,⟨rfl,rfl,rfl,zDd⟩,⟨rfl,rfl,rfl,zCp⟩,trivial⟩
 refine FOk.frzH 4 rfl (FOk.frzH 3 rfl (FOk.frzH 2 rfl ?_))
 refine FOk.norm (ks:=[13,18,2]) (nl:=[]) (st':=(St.mk [(13,SV.agg [SV.v (qA (0:Int)),SV.v (qA (2:Int)),SV.v (qA (0:Int)),SV.v (Value.slice none 0 0),SV.v (Value.slice none 0 0),SV.v (Value.slice none 0 0),SV.v (Value.slice none 0 0)]),(18,SV.agg [SV.o 0,SV.v (Value.slice none 0 0),SV.v (Value.slice none 0 0),SV.v (Value.slice none 0 0)]),(2,SV.p 1 0)] [HO.rowc 50 2 3 (Ct.lit 2 [qB.v (qA (2:Int)),qB.s false 7 1 (cPt [Pt.mk (3:Int) (0:Int) (0:Int) 7]),qB.v (qA (2:Int)),qB.s false 7 1 (cPt [Pt.mk (3:Int) (1:Int) (0:Int) 7]),qB.v (qA (2:Int)),qB.s false 7 2 (cPt [Pt.mk (3:Int) (0:Int) (0:Int) 7,Pt.mk (3:Int) (1:Int) (0:Int) 0])]),HO.cells [SV.v (Value.slice none 0 0),SV.v (Value.slice none 0 0),SV.v (Value.slice none 0 0),SV.v (Value.slice none 0 0)] 42])) (by kernel_rfl) ?_
 refine FOk.cv (h':=(St.heap (St.mk [(13,SV.agg [SV.v (qA (0:Int)),SV.v (qA (2:Int)),SV.v (qA (0:Int)),SV.v (Value.slice none 0 0),SV.v (Value.slice none 0 0),SV.v (Value.slice none 0 0),SV.v (Value.slice none 0 0)]),(18,SV.agg [SV.o 0,SV.v (Value.slice none 0 0),SV.v (Value.slice none 0 0),SV.v (Value.slice none 0 0)]),(2,SV.p 1 0)] [HO.rowc 50 2 3 (Ct.fn (cRg alP.1)),HO.cells [SV.v (Value.slice none 0 0),SV.v (Value.slice none 0 0),SV.v (Value.slice none 0 0),SV.v (Value.slice none 0 0)] 42]))) ?_ ⟨⟨rfl,rfl,rfl,zJb⟩,HE.refl _,trivial⟩
 refine FOk.frz 0 rfl ?_
 refine FOk.norm (ks:=[13,18,2]) (nl:=[]) (st':=(St.mk [(13,SV.agg [SV.v (qA (0:Int)),SV.v (qA (2:Int)),SV.v (qA (0:Int)),SV.v (Value.slice none 0 0),SV.v (Value.slice none 0 0),SV.v (Value.slice none 0 0),SV.v (Value.slice none 0 0)]),(18,SV.agg [SV.x 0 [],SV.v (Value.slice none 0 0),SV.v (Value.slice none 0 0),SV.v (Value.slice none 0 0)]),(2,SV.p 1 0)] [HO.ext false (qB.s false 2 3 (cRg alP.1)),HO.cells [SV.v (Value.slice none 0 0),SV.v (Value.slice none 0 0),SV.v (Value.slice none 0 0),SV.v (Value.slice none 0 0)] 42])) (by kernel_rfl) ?_
 refine qC hm 60 ((zTq _ _).mpr ⟨qTn (And.intro (fun _=>Nat.le_refl 4) ⟨⟨[0,0,2],[0,0,2],rfl,IsC.refl _ _ _,rfl,zJa,by decide,?_⟩⟩)⟩)
 rw[decide_eq_true rfl]
 refine And.intro (fun _=>by decide) (And.intro (fun _=>by decide) (And.intro (fun _=>by decide) (And.intro (fun _=>by decide) (And.intro (fun _=>by decide) (And.intro (fun _=>by decide) (And.intro (fun _=>by decide) (And.intro (fun _=>by decide) (And.intro (fun _=>by decide) ?_))))))))
 show Q (SV.v (Value.bool (decide (eI 7=[(7:Int),(0:Int),(0:Int),(0:Int)])))) []
 rw[decide_eq_true zIs]
 exact hq
theorem zQw:Tryz.f6.body.isSome=true:=by kernel_rfl
theorem zTg:Nat.ble ([]:List SV).length Tryz.f6.ntmps=true:=by kernel_rfl
theorem zHu(Q:SV→List HO→Prop)(hq:Q (.v (.bool true)) []):qI Tryz.prog 6 [] [] Q:=by
 refine qL Tryz.func6 zQw zTg ?_
 refine qC hm 60 ((zTs _ _).mpr ⟨?_⟩)
 repeat' (first | refine And.intro (fun _=>by omega) ?_ | refine And.intro ?_ ?_)
 ·exact FOk.norm (ks:=[13,18]) (nl:=[]) (by kernel_rfl) (zNa Q hq)
 all_goals exact FOk.norm (ks:=[13,18,2]) (nl:=[]) (by kernel_rfl) (zLr Q hq)
noncomputable def zEa:List SV→List HO→Option ((SV→List HO→Prop)→Prop)
 | [],[]=>some fun Q=>Q (.v (.bool true)) []
 | _,_=>none
theorem zEv(args:List SV)(h:List HO)(tr:(SV→List HO→Prop)→Prop)(Q:SV→List HO→Prop)(hc:zEa args h=some tr)(ht:tr Q):qI Tryz.prog 6 args h Q:=by
 unfold zEa at hc
 split at hc
 ·simp only[sI] at hc
  subst hc
  exact zHu Q ht
 ·cases hc
noncomputable def zYs:Con Tryz.prog:=zHj.add 6 zEa zEv
end Go.Proofs.YtlmjdcbhpffanaaGreat
/- Layout's errors, one by one. -/
namespace Go.Pl
open Go.Sx
end Go.Pl
namespace Go.Proofs.YtlmjdcbhpffanaaGreat
open Go.Sx Go.Pl
set_option linter.unusedVariables false
set_option maxRecDepth 100000
noncomputable def qWj:Con Tryz.prog:=zYs
end Go.Proofs.YtlmjdcbhpffanaaGreat
/- A region more: plain. -/
namespace Go.Pl
open Go.Sx
theorem qRr{c:Cir}{k:Int}{p:Pln}{lF:List (List Nat)}{z:List (List Nat)×List (List Nat)×List Int}(h0:yT c k p=0)(h1:xW (usN k) p.tb (List.replicate c.fx.toNat [])=some lF)(h2:yQ (usN k) p.rg [] [] lF (List.replicate c.ad.toNat []) []=some z):qZ c k p=((⟨z.1,z.2.1,p.is,yR z.2.2 p.lk⟩,z.2.2),0):=by
 rw[qZ,if_neg (fun h=>h h0),h1]
 show(match yQ (usN k) p.rg [] [] lF (List.replicate c.ad.toNat []) [] with | none=>_ | some z=>_)=_
 rw[h2]
theorem qKl{c:Cir}{k:Int}{p:Pln}(h:(qZ c k p).2=0):∃ lF z,yT c k p=0∧xW (usN k) p.tb (List.replicate c.fx.toNat [])=some lF∧yQ (usN k) p.rg [] [] lF (List.replicate c.ad.toNat []) []=some z:=by
 by_cases h0:yT c k p=0
 ·rw[qZ,if_neg (fun hh=>hh h0)] at h
  cases e1:xW (usN k) p.tb (List.replicate c.fx.toNat []) with
  | none=>rw[e1] at h; cases h
  | some lF =>
   rw[e1] at h
   cases e2:yQ (usN k) p.rg [] [] lF (List.replicate c.ad.toNat []) [] with
   | none =>
    have h':(match yQ (usN k) p.rg [] [] lF (List.replicate c.ad.toNat []) [] with | none=>((qFd,([]:List Int)),(141:Int)) | some z=>((⟨z.1,z.2.1,p.is,yR z.2.2 p.lk⟩,z.2.2),0)).2=0:=h
    rw[e2] at h'; cases h'
   | some z=>exact⟨lF,z,h0,rfl,e2⟩
 ·rw[qZ,if_pos h0] at h
  exact absurd h h0
end Go.Pl
namespace Go.Proofs.YtlmjdcbhpffanaaGreat
open Go.Sx Go.Pl
set_option linter.unusedVariables false
set_option maxRecDepth 100000
end Go.Proofs.YtlmjdcbhpffanaaGreat
/- Where regions stand: the rows taken, bit by bit. -/
namespace Go.Pl
open Go.Sx
theorem qKv:∀(kl:List (List Int)) (l:List Int) (x y:List Int) (a:Int),l.length=kl.length→y≠x→zG (zK kl x) (qU kl l x a) y=zG kl l y
 | [],[],x,y,a,_,h=>by simp [zK,qU,zG,h]
 | [],b::t,x,y,a,hl,_=>by simp at hl
 | k::r,[],x,y,a,hl,_=>by simp at hl
 | k::r,b::t,x,y,a,hl,h=>by
  by_cases hx:x=k
  ·subst hx; simp [zK,qU,zG,h]
  ·simp [zK,qU,zG,hx,qKv r t x y a (by simpa using hl) h]
def okM(kl:List (List Int))(ml:List Int):Prop:=ml.length=kl.length∧∀ y,0≤zG kl ml y∧zG kl ml y<18446744073709551616
theorem qRv:okM [] []:=⟨rfl,fun y=>by simp [zG]⟩
def qDx(kl:List (List Int))(ml:List Int)(y:List Int)(i:Nat):Bool:=(zG kl ml y).toNat.testBit i
theorem zDc(y:List Int)(i:Nat):qDx [] [] y i=false:=by simp [qDx,zG]
theorem zPw{a b:Int}(ha:0≤a∧a<18446744073709551616)(hb:0≤b∧b<18446744073709551616):orV a b=((a.toNat|||b.toNat:Nat):Int)∧a.toNat|||b.toNat<18446744073709551616:=by
 have hl:a.toNat|||b.toNat<18446744073709551616:=Nat.or_lt_two_pow (n:=64) (show a.toNat<2^64 by omega) (show b.toNat<2^64 by omega)
 refine⟨?_,hl⟩
 rw[orV,Int.emod_eq_of_lt ha.1 ha.2,Int.emod_eq_of_lt hb.1 hb.2,qUu _ hl]
theorem zNq{a b:Int}(ha:0≤a∧a<18446744073709551616)(hb:0≤b∧b<18446744073709551616):zMv a b=((a.toNat&&&b.toNat:Nat):Int):=by
 have hl:a.toNat&&&b.toNat<18446744073709551616:=Nat.lt_of_le_of_lt Nat.and_le_left (by omega)
 rw[zMv,Int.emod_eq_of_lt ha.1 ha.2,Int.emod_eq_of_lt hb.1 hb.2,qUu _ hl]
theorem zEm(r s:Nat)(h:r+s≤63):yL (r:Int) (s:Int)=(((2^r-1)*2^s:Nat):Int)∧(2^r-1)*2^s<18446744073709551616:=by
 have h1:2^r*2^s≤2^63:=by rw[← Nat.pow_add]; exact Nat.pow_le_pow_right (by decide) h
 have h2:0<2^r:=Nat.two_pow_pos r
 have h3:0<2^s:=Nat.two_pow_pos s
 have h4:(2^r-1)*2^s≤2^r*2^s:=Nat.mul_le_mul_right _ (Nat.sub_le _ _)
 have h5:2^r≤2^r*2^s:=Nat.le_mul_of_pos_right _ h3
 have e63:(2:Nat)^63=9223372036854775808:=by decide
 rw[e63] at h1
 have h6:(2^r-1)*2^s<18446744073709551616:=by omega
 refine⟨?_,h6⟩
 rw[yL,Int.toNat_natCast,Int.toNat_natCast,if_pos (by omega),if_pos (by omega)]
 have e1:(1:Int)*2^r=((2^r:Nat):Int):=by rw[Int.one_mul]; exact(Int.natCast_pow 2 r).symm
 rw[e1,qUu _ (by omega)]
 have e2:((2^r:Nat):Int)-1=((2^r-1:Nat):Int):=by omega
 rw[e2,qUu _ (by omega)]
 have e3:(((2^r-1:Nat):Int))*2^s=(((2^r-1)*2^s:Nat):Int):=by rw[Int.natCast_mul]; congr 1
 rw[e3,qUu _ h6]
theorem zBs(r s i:Nat):((2^r-1)*2^s).testBit i=decide (s≤i∧i<s+r):=by
 rw[← Nat.shiftLeft_eq,Nat.testBit_shiftLeft,Nat.testBit_two_pow_sub_one,← Bool.decide_and]
 refine decide_eq_decide.2 ?_
 omega
theorem qCi(r s:Nat)(h:r+s≤63)(i:Nat):(yL (r:Int) (s:Int)).toNat.testBit i=decide (s≤i∧i<s+r):=by
 rw[(zEm r s h).1,Int.toNat_natCast,zBs]
theorem qKq(r s:Nat)(h:r+s≤63):0≤yL (r:Int) (s:Int)∧yL (r:Int) (s:Int)<18446744073709551616:=by
 have:=zEm r s h
 rw[this.1]; omega
theorem qIn{mk:Int}(hm:0≤mk∧mk<18446744073709551616):∀(ps:List Pt) (kl:List (List Int)) (ml:List Int),okM kl ml→okM (xU mk kl ml ps).1 (xU mk kl ml ps).2∧∀ y i,qDx (xU mk kl ml ps).1 (xU mk kl ml ps).2 y i=(qDx kl ml y i||(ps.any (fun x=>decide ([x.kd,x.co]=y))&&mk.toNat.testBit i))
 | [],kl,ml,h=>⟨h,fun y i=>by simp [xU]⟩
 | x::t,kl,ml,h=>by
  rw[xU]
  have ho:=zPw (h.2 [x.1,x.2]) hm
  have hok:okM (zK kl [x.1,x.2]) (qU kl ml [x.1,x.2] (orV (zG kl ml [x.1,x.2]) mk)):=⟨xK _ _ _ _ h.1,fun y=>by
   by_cases hy:y=[x.1,x.2]
   ·rw[hy,qEv _ _ _ _ h.1,ho.1]; have:=ho.2; omega
   ·rw[qKv _ _ _ _ _ h.1 hy]; exact h.2 y⟩
  obtain⟨a,b⟩:=qIn hm t _ _ hok
  refine⟨a,fun y i=>?_⟩
  rw[b y i,List.any_cons]
  have e:qDx (zK kl [x.1,x.2]) (qU kl ml [x.1,x.2] (orV (zG kl ml [x.1,x.2]) mk)) y i=(qDx kl ml y i||(decide ([x.kd,x.co]=y)&&mk.toNat.testBit i)):=by
   by_cases hy:y=[x.1,x.2]
   ·rw[qDx,qDx,hy,qEv _ _ _ _ h.1,ho.1,Int.toNat_natCast,Nat.testBit_or,decide_eq_true rfl,Bool.true_and]
   ·rw[qDx,qDx,qKv _ _ _ _ _ h.1 hy,decide_eq_false (fun hh=>hy hh.symm),Bool.false_and,Bool.or_false]
  rw[e,Bool.or_assoc,← Bool.and_or_distrib_right]
theorem qYp{kl:List (List Int)}{ml:List Int}(h:okM kl ml)(r s:Nat)(hrs:r+s≤63)(x:Pt):tkB kl ml (yL (r:Int) (s:Int)) x=false↔∀ i,s≤i→i<s+r→qDx kl ml [x.kd,x.co] i=false:=by
 have hm:=qKq r s hrs
 rw[tkB,zNq (h.2 [x.1,x.2]) hm]
 have e:((!(((zG kl ml [x.1,x.2]).toNat&&&(yL (r:Int) (s:Int)).toNat:Nat):Int)==(0:Int))=false)↔(zG kl ml [x.1,x.2]).toNat&&&(yL (r:Int) (s:Int)).toNat=0:=by
  rw[Bool.not_eq_false',beq_iff_eq]; omega
 rw[e]
 constructor
 ·intro h0 i h1 h2
  have:=congrArg (fun n=>Nat.testBit n i) h0
  simp only[Nat.testBit_and,Nat.zero_testBit,qCi r s hrs] at this
  rw[decide_eq_true ⟨h1,h2⟩,Bool.and_true] at this
  exact this
 ·intro h0
  refine Nat.eq_of_testBit_eq fun i=>?_
  rw[Nat.testBit_and,Nat.zero_testBit,qCi r s hrs]
  by_cases hi:s≤i∧i<s+r
  ·have:=h0 i hi.1 hi.2
   rw[qDx] at this
   rw[this,Bool.false_and]
  ·rw[decide_eq_false hi,Bool.and_false]
theorem qPw{kl:List (List Int)}{ml:List Int}{rows u:Int}{ps:List Pt}:∀(d:Nat) (s0 s:Int),qFm kl ml rows u ps d s0=some s→ps.any (tkB kl ml (yL rows s))=false
 | 0,s0,s,h=>by cases h
 | d+1,s0,s,h=>by
  rw[qFm] at h
  by_cases ha:ps.any (tkB kl ml (yL rows s0))=true
  ·rw[if_pos ha] at h; exact qPw d (s0+1) s h
  ·rw[if_neg ha] at h
   simp only[sI] at h
   rw[← h]; simpa using ha
theorem zAy{kl:List (List Int)}{ml:List Int}{rows u:Int}{ps:List Pt}{s:Int}(h:qAu kl ml rows u ps=some s):ps.any (tkB kl ml (yL rows s))=false:=by
 rw[qAu] at h
 split at h
 ·exact qPw _ _ _ h
 ·cases h
theorem zCw{c:Cir}{k:Int}{p:Pln}(h:(qZ c k p).2=0):(qZ c k p).1.2.length=p.rg.length:=by
 obtain⟨lF,z,h0,e1,e2⟩:=qKl h
 obtain⟨a1,a2,a3,a4⟩:=qIi h0
 have hr:=qFy a4
 rw[qRr h0 e1 e2]
 have:=(qIo _ _ _ _ _ _ _ e2 (fun s hs=>by cases hs) (fun r h=>(hr.r r h).w)).1
 simpa using this
end Go.Pl
namespace Go.Proofs.YtlmjdcbhpffanaaGreat
open Go.Sx Go.Pl
set_option linter.unusedVariables false
set_option maxRecDepth 100000
end Go.Proofs.YtlmjdcbhpffanaaGreat
/- Regions stand apart, and the sheet fits: plain. -/
namespace Go.Pl
open Go.Sx
structure apR (u:Int) (kl:List (List Int)) (ml:List Int) (rs:List (Int×List Pt)) (l:List Int):Prop where
 len:l.length=rs.length
 rng:∀ i,i<rs.length→0≤gI l i∧gI l i+(gRg rs i).1≤u
 free:∀ i,i<rs.length→∀ x∈(gRg rs i).2,∀ n:Nat,gI l i≤n→(n:Int)<gI l i+(gRg rs i).1→qDx kl ml [x.kd,x.co] n=false
 apart:∀ i j,i<rs.length→j<i→∀ x∈(gRg rs i).2,∀ y∈(gRg rs j).2,x.kd=y.kd→x.co=y.co→gI l i+(gRg rs i).1≤gI l j∨gI l j+(gRg rs j).1≤gI l i
theorem qYz{ps:List Pt}{x y:Pt}(hy:y∈ps)(h1:x.kd=y.kd)(h2:x.co=y.co):ps.any (fun z=>decide ([z.kd,z.co]=[x.kd,x.co]))=true:=by
 rw[List.any_eq_true]
 exact⟨y,hy,decide_eq_true (by rw[h1,h2])⟩
theorem qFn{u:Int}(hu:u≤28):∀(rs:List (Int×List Pt)) (kl:List (List Int)) (ml:List Int) (lF lA:List (List Nat)) (ss:List Int) (z:List (List Nat)×List (List Nat)×List Int),yQ u rs kl ml lF lA ss=some z→okM kl ml→(∀ r∈rs,1≤r.1)→∃ l,z.2.2=ss++l∧apR u kl ml rs l
 | [],kl,ml,lF,lA,ss,z,h,_,_=>by
  simp only[yQ,sI] at h
  subst h
  exact⟨[],(List.append_nil _).symm,rfl,fun i hi=>absurd hi (Nat.not_lt_zero i),fun i hi=>absurd hi (Nat.not_lt_zero i),fun i j hi=>absurd hi (Nat.not_lt_zero i)⟩
 | r::t,kl,ml,lF,lA,ss,z,h,hm,hr=>by
  rw[yQ] at h
  have h1:=hr r List.mem_cons_self
  have ht:=fun x hx=>hr x (List.mem_cons_of_mem r hx)
  cases hp:qAu kl ml r.1 u r.2 with
  | none=>rw[hp] at h; cases h
  | some s =>
   rw[hp] at h
   have hs:=qAr hp
   have hf:=zAy hp
   have er:((r.1.toNat:Nat):Int)=r.1:=Int.toNat_of_nonneg (by omega)
   have es:((s.toNat:Nat):Int)=s:=Int.toNat_of_nonneg hs.1
   have hmk:=qKq r.1.toNat s.toNat (by omega)
   have hmb:=qCi r.1.toNat s.toNat (by omega)
   rw[er,es] at hmk hmb
   obtain⟨m1,m2⟩:=qIn hmk r.2 kl ml hm
   obtain⟨l,e1,a1,a2,a3,a4⟩:=qFn hu t _ _ _ _ _ z h m1 ht
   have fr0:∀ x∈r.2,∀ n:Nat,s≤n→(n:Int)<s+r.1→qDx kl ml [x.kd,x.co] n=false:=by
    intro x hx n h1 h2
    have:=List.any_eq_false.1 hf x hx
    rw[Bool.not_eq_true,← er,← es,qYp hm _ _ (by omega)] at this
    exact this n (by omega) (by omega)
   refine⟨s::l,by rw[e1,List.append_assoc]; rfl,by rw[List.length_cons,List.length_cons,a1],fun i hi=>?_,fun i hi=>?_,fun i j hi hj=>?_⟩
   ·match i with
    | 0=>exact hs
    | i+1=>exact a2 i (Nat.lt_of_succ_lt_succ hi)
   ·match i with
    | 0=>exact fr0
    | i+1 =>
     intro x hx n h1 h2
     have:=a3 i (Nat.lt_of_succ_lt_succ hi) x hx n h1 h2
     rw[m2,Bool.or_eq_false_iff] at this
     exact this.1
   ·match i,j with
    | 0,_=>omega
    | i+1,j+1=>exact a4 i j (Nat.lt_of_succ_lt_succ hi) (by omega)
    | i+1,0 =>
     intro x hx y hy hk hc
     show gI l i+(gRg t i).1≤s∨s+r.1≤gI l i
     have hi':=Nat.lt_of_succ_lt_succ hi
     have b1:=a2 i hi'
     have b2:=ht _ (zR hi')
     have b3:=a3 i hi' x hx
     rcases Int.lt_or_le s (gI l i+(gRg t i).1) with c1 | c1
     ·rcases Int.lt_or_le (gI l i) (s+r.1) with c2 | c2
      ·exfalso
       have b4:=b3 (max (gI l i) s).toNat (by omega) (by omega)
       rw[m2,qYz (ps:=r.2) hy hk hc,Bool.true_and,hmb,Bool.or_eq_false_iff] at b4
       have:=of_decide_eq_false b4.2
       omega
      ·exact .inr c2
     ·exact .inl c1
theorem qMh{u:Int}:∀(ts:List (Int×List Nat)) (lF z:List (List Nat)),xW u ts lF=some z→z.length=lF.length
 | [],lF,z,h=>by simp only[xW,sI] at h; rw[h]
 | t::r,lF,z,h=>by
  rw[xW] at h
  split at h
  ·cases h
  ·rw[qMh r _ z h,List.length_set]
theorem qNv{c:Cir}{u:Int}:∀(rs:List (Int×List Pt)) (kl:List (List Int)) (ml:List Int) (lF lA:List (List Nat)) (ss:List Int) (z:List (List Nat)×List (List Nat)×List Int),yQ u rs kl ml lF lA ss=some z→(∀ r∈rs,rgR c r)→lF.length=c.fx.toNat→lA.length=c.ad.toNat→(∀ q,((gT lF q).length:Int)≤u)→(∀ q,((gT lA q).length:Int)≤u)→z.1.length=lF.length∧z.2.1.length=lA.length∧(∀ q,((gT z.1 q).length:Int)≤u)∧∀ q,((gT z.2.1 q).length:Int)≤u
 | [],kl,ml,lF,lA,ss,z,h,_,_,_,h3,h4=>by
  simp only[yQ,sI] at h
  subst h
  exact⟨rfl,rfl,h3,h4⟩
 | r::t,kl,ml,lF,lA,ss,z,h,hr,h1,h2,h3,h4=>by
  rw[yQ] at h
  cases hp:qAu kl ml r.1 u r.2 with
  | none=>rw[hp] at h; cases h
  | some s =>
   rw[hp] at h
   have hs:=qAr hp
   have hl:=qEg s r.2 lF lA
   have hle:=qHj hs.1 hs.2 r.2 lF lA (hr r List.mem_cons_self).x h1 h2 h3 h4
   have ih:=qNv t _ _ _ _ _ z h (fun x hx=>hr x (List.mem_cons_of_mem r hx)) (by rw[hl.1,h1]) (by rw[hl.2,h2]) hle.1 hle.2
   rw[hl.1,hl.2] at ih
   exact ih
theorem qNw{c:Cir}{p:Pln}{u:Int}{l:List Int}(ha:∀ i,i<p.rg.length→0≤gI l i∧gI l i+(gRg p.rg i).1≤u){x:Int×Int×Int}(h:enR c p u x):zOh c.eqs.length u (xF l x).1 (xF l x).2=false:=by
 obtain⟨r0,r1,c0,c1,o0,o1,o2⟩:=h
 have e:0≤(xF l x).2∧(xF l x).2<u:=by
  rw[xF]
  show 0≤(if 0≤x.1 then x.2.2+gI l x.1.toNat else x.2.2)∧(if 0≤x.1 then x.2.2+gI l x.1.toNat else x.2.2)<u
  by_cases hx:0≤x.1
  ·rw[if_pos hx]
   have a:=ha x.1.toNat (by omega)
   have b:=o2 hx
   omega
  ·rw[if_neg hx]
   have b:=o1 (by omega)
   omega
 have e1:(xF l x).1=x.2.1:=rfl
 rw[zOh,e1]
 simp only[decide_eq_false_iff_not]
 omega
structure laI (c:Cir) (k:Int) (p:Pln):Prop where
 h0:yT c k p=0
 k3:3≤k
 k5:k≤5
 ck:wM c=0
 pr:plR c p (usN k)
 us:0≤usN k∧usN k≤28
theorem qXe{c:Cir}{k:Int}{p:Pln}(h0:yT c k p=0):laI c k p:=by
 obtain⟨a1,a2,a3,a4⟩:=qIi h0
 exact⟨h0,by omega,by omega,a1,qFy a4,zIt (by omega)⟩
theorem qYg{c:Cir}{k:Int}{p:Pln}(h:(qZ c k p).2=0):apR (usN k) [] [] p.rg (qZ c k p).1.2:=by
 obtain⟨lF,z,h0,e1,e2⟩:=qKl h
 have I:=qXe h0
 obtain⟨l,e3,a⟩:=qFn I.us.2 _ _ _ _ _ _ _ e2 qRv fun r hr=>(I.pr.r r hr).w
 rw[qRr h0 e1 e2]
 show apR (usN k) [] [] p.rg z.2.2
 rw[e3]; exact a
def qEz(t:List (List Nat)):Prop:=∀ q j,gE (gT t q) j<top
theorem zFz(l:List Nat)(r v k:Nat):gE (zJ l r v) k=if k=r then v else gE l k:=by
 rw[zJ,zEl _ _ _ _ (by rw[List.length_append,List.length_replicate]; omega)]
 by_cases hk:k=r
 ·rw[if_pos hk,if_pos hk]
 ·rw[if_neg hk,if_neg hk,gE,gE,List.getD_eq_getElem?_getD,List.getD_eq_getElem?_getD]
  rcases Nat.lt_or_ge k l.length with h | h
  ·rw[List.getElem?_append_left h]
  ·rw[List.getElem?_append_right h,List.getElem?_eq_none h,List.getElem?_replicate]
   split <;> rfl
theorem zAb(l:List (List Nat))(k q:Nat)(x:List Nat):gT (l.set k x) q=if q=k∧k<l.length then x else gT l q:=by
 rcases Nat.lt_or_ge k l.length with h | h
 ·rw[qMj l k q x h]
  by_cases hq:q=k
  ·rw[if_pos hq,if_pos ⟨hq,h⟩]
  ·rw[if_neg hq,if_neg (fun hh=>hq hh.1)]
 ·rw[List.set_eq_of_length_le h,if_neg (by omega)]
theorem qGe{t:List (List Nat)}(h:qEz t)(k r v:Nat)(hv:v<top):qEz (t.set k (zJ (gT t k) r v)):=by
 intro q j
 rw[zAb]
 split
 ·rw[zFz]; split
  ·exact hv
  ·exact h _ _
 ·exact h _ _
theorem qHa(n:Nat):qEz (List.replicate n []):=by
 intro q j; rw[qWe]; exact(by decide:0<top)
theorem qKk{u:Int}:∀(ts:List (Int×List Nat)) (lF z:List (List Nat)),xW u ts lF=some z→qEz lF→(∀ t∈ts,∀ v∈t.2,v<top)→qEz z
 | [],lF,z,h,hc,_=>by
  simp only[xW,sI] at h
  subst h
  exact hc
 | t::r,lF,z,h,hc,ht=>by
  rw[xW] at h
  split at h
  ·cases h
  ·refine qKk r _ z h (fun q j=>?_) fun x hx=>ht x (List.mem_cons_of_mem _ hx)
   rw[zAb]
   split
   ·exact qWi (ht t List.mem_cons_self) j
   ·exact hc q j
theorem qGl(s:Int):∀(ps:List Pt) (lF lA:List (List Nat)),(∀ x∈ps,x.v<top)→qEz lF→qEz lA→qEz (qAv s ps lF lA).1∧qEz (qAv s ps lF lA).2
 | [],_,_,_,h1,h2=>⟨h1,h2⟩
 | x::t,lF,lA,h,h1,h2=>by
  have hx:=h x List.mem_cons_self
  have ht:=fun y hy=>h y (List.mem_cons_of_mem x hy)
  rw[qAv]
  split
  ·exact qGl s t _ _ ht (qGe h1 _ _ _ hx) h2
  ·exact qGl s t _ _ ht h1 (qGe h2 _ _ _ hx)
theorem qTh{u:Int}:∀(rs:List (Int×List Pt)) (kl:List (List Int)) (ml:List Int) (lF lA:List (List Nat)) (ss:List Int) (z:List (List Nat)×List (List Nat)×List Int),yQ u rs kl ml lF lA ss=some z→(∀ r∈rs,∀ x∈r.2,x.v<top)→qEz lF→qEz lA→qEz z.1∧qEz z.2.1
 | [],kl,ml,lF,lA,ss,z,h,_,h1,h2=>by
  simp only[yQ,sI] at h
  subst h
  exact⟨h1,h2⟩
 | r::t,kl,ml,lF,lA,ss,z,h,hr,h1,h2=>by
  rw[yQ] at h
  cases hp:qAu kl ml r.1 u r.2 with
  | none=>rw[hp] at h; cases h
  | some s =>
   rw[hp] at h
   have e:=qGl s r.2 lF lA (hr r List.mem_cons_self) h1 h2
   exact qTh t _ _ _ _ _ z h (fun x hx=>hr x (List.mem_cons_of_mem r hx)) e.1 e.2
theorem qRm{t:List (List Nat)}(h:qEz t)(h1:∀ q,((gT t q).length:Int)≤28)(h2:t.length≤1000000):okT t:=by
 refine⟨fun x hx=>?_,by omega⟩
 obtain⟨q,hq,rfl⟩:=List.mem_iff_getElem.1 hx
 have e:t[q]=gT t q:=by rw[gT,List.getD_eq_getElem?_getD,List.getElem?_eq_getElem hq]; rfl
 rw[e]
 refine⟨fun v hv=>?_,by have:=h1 q; omega⟩
 obtain⟨j,hj,rfl⟩:=List.mem_iff_getElem.1 hv
 have:=h q j
 rw[gE,List.getD_eq_getElem?_getD,List.getElem?_eq_getElem hj] at this
 exact this
theorem qSy{c:Cir}{k:Int}{p:Pln}(hp:p.ok)(h:(qZ c k p).2=0):(qZ c k p).1.1.ok:=by
 have ap:=qYg h
 obtain⟨lF,z,h0,e1,e2⟩:=qKl h
 have I:=qXe h0
 have hcn:=of_decide_eq_true (qKe I.ck)
 have hcn1:=hcn.1
 have hcn2:=hcn.2.1
 rw[qRr h0 e1 e2] at ap ⊢
 have l1:=qMh _ _ _ e1
 rw[List.length_replicate] at l1
 obtain⟨b1,b2,b3,b4⟩:=qNv _ _ _ _ _ _ _ e2 I.pr.r l1 (List.length_replicate) (qJq _ _ _ e1 (qAf _ I.us.1)) (qAf _ I.us.1)
 rw[l1] at b1
 rw[List.length_replicate] at b2
 have T:=qTh _ _ _ _ _ _ _ e2 (fun r hr x hx=>((hp.r.1 r hr).2.1 x hx).2.2.2) (qKk _ _ _ e1 (qHa _) fun t ht=>(hp.t.1 t ht).2.1) (qHa _)
 have u28:=I.us.2
 have o1:okT z.1:=qRm T.1 (fun q=>by have:=b3 q; omega) (by omega)
 have o2:okT z.2.1:=qRm T.2 (fun q=>by have:=b4 q; omega) (by omega)
 refine⟨o1,o2,hp.i,fun y hy=>?_,?_⟩
 ·obtain⟨x,hx,rfl⟩:=List.mem_map.1 hy
  have e:=hp.l.1 x hx
  have eb:=I.pr.l x hx
  have g1:=qNw ap.rng eb.1
  have g2:=qNw ap.rng eb.2
  rw[zOh] at g1 g2
  simp only[decide_eq_false_iff_not] at g1 g2
  unfold i64 at e ⊢
  have:=hcn
  exact⟨e.1.2.1,by show _≤(xF z.2.2 x.1).2∧(xF z.2.2 x.1).2<_; omega,e.2.2.1,by show _≤(xF z.2.2 x.2).2∧(xF z.2.2 x.2).2<_; omega⟩
 ·show(yR z.2.2 p.lk).length*32≤_
  rw[yR,List.length_map]
  have:=I.pr.nl
  omega
end Go.Pl
namespace Go.Proofs.YtlmjdcbhpffanaaGreat
open Go.Sx Go.Pl
set_option linter.unusedVariables false
set_option maxRecDepth 100000
end Go.Proofs.YtlmjdcbhpffanaaGreat
/- Each value stands where its region does, and there are no others: plain. -/
namespace Go.Pl
open Go.Sx
theorem wC:∀(kl:List (List Int)) (x y:List Int),jY (zK kl x) y=(jY kl y||decide (y=x))
 | [],x,y=>by simp [zK,jY]
 | k::r,x,y=>by
  by_cases hx:x=k
  ·subst hx
   simp only[zK,decide_true,cond_true,jY]
   cases decide (y=x) <;> simp
  ·have ih:=wC r x y
   simp only[zK,decide_eq_false hx,cond_false,jY,ih,Bool.or_assoc]
def qSl(a b:Pt):Prop:=a.kd=b.kd∧a.co=b.co∧a.of=b.of
end Go.Pl
namespace Go.Proofs.YtlmjdcbhpffanaaGreat
open Go.Sx Go.Pl
set_option linter.unusedVariables false
set_option maxRecDepth 100000
end Go.Proofs.YtlmjdcbhpffanaaGreat
/- The document's Check and Layout: plain. -/
namespace Go.Pl
open Go.Sx
/-! ### right plans, by what they have -/
theorem qVm{c:Cir}{p:Pln}{rows:Int}:∀(l:List Pt) (met:List (List Int)),qXr c p rows met l=true↔(∀ x∈l,qGm c p rows x.1 x.2 x.3=true)∧(∀ x∈l,jY met (ptK x)=false)∧l.Pairwise (fun a b=>¬ qSl a b)
 | [],met=>⟨fun _=>⟨fun x hx=>(by cases hx),fun x hx=>(by cases hx),List.Pairwise.nil⟩,fun _=>rfl⟩
 | x::t,met=>by
  rw[qXr,zZ,zZ,qVm t]
  constructor
  ·rintro⟨h0,h1,h2,h3,h4⟩
   have h1':qGm c p rows x.1 x.2 x.3=true:=by simpa using h1
   refine⟨fun y hy=>?_,fun y hy=>?_,List.Pairwise.cons (fun y hy e=>?_) h4⟩
   ·rcases List.mem_cons.1 hy with rfl | hy
    ·exact h1'
    ·exact h2 y hy
   ·rcases List.mem_cons.1 hy with rfl | hy
    ·exact h0
    ·have:=h3 y hy
     rw[wC,Bool.or_eq_false_iff] at this
     exact this.1
   ·have:=h3 y hy
    have e':ptK y=ptK x:=by rw[ptK,ptK,e.1,e.2.1,e.2.2]
    rw[wC,Bool.or_eq_false_iff,e'] at this
    exact absurd this.2 (by simp)
  ·rintro⟨h2,h3,h4⟩
   obtain⟨d1,d2⟩:=List.pairwise_cons.1 h4
   refine⟨h3 x List.mem_cons_self,by rw[h2 x List.mem_cons_self]; rfl,fun y hy=>h2 y (List.mem_cons_of_mem x hy),fun y hy=>?_,d2⟩
   rw[wC,h3 y (List.mem_cons_of_mem x hy),Bool.false_or]
   refine decide_eq_false fun e=>d1 y hy ?_
   simp only[ptK,List.cons.injEq] at e
   exact⟨e.1.symm,e.2.1.symm,e.2.2.1.symm⟩
theorem qTu(fx:Int):∀(l:List (Int×List Nat)) (met:List (List Int)),qNp fx met l=true↔(∀ t∈l,0≤t.1∧t.1<fx)∧(∀ t∈l,jY met [t.1]=false)∧l.Pairwise (fun a b=>a.1≠b.1)
 | [],met=>⟨fun _=>⟨fun x hx=>(by cases hx),fun x hx=>(by cases hx),List.Pairwise.nil⟩,fun _=>rfl⟩
 | x::t,met=>by
  rw[qNp,zZ,zZ,zZ,qTu fx t]
  constructor
  ·rintro⟨h0,h1,h1',h2,h3,h4⟩
   have h1:=of_decide_eq_false h1
   have h1':=of_decide_eq_false h1'
   refine⟨fun y hy=>?_,fun y hy=>?_,List.Pairwise.cons (fun y hy e=>?_) h4⟩
   ·rcases List.mem_cons.1 hy with rfl | hy
    ·omega
    ·exact h2 y hy
   ·rcases List.mem_cons.1 hy with rfl | hy
    ·exact h0
    ·have:=h3 y hy
     rw[wC,Bool.or_eq_false_iff] at this
     exact this.1
   ·have:=h3 y hy
    rw[wC,Bool.or_eq_false_iff,e] at this
    exact absurd this.2 (by simp)
  ·rintro⟨h2,h3,h4⟩
   obtain⟨d1,d2⟩:=List.pairwise_cons.1 h4
   have hx:=h2 x List.mem_cons_self
   refine⟨h3 x List.mem_cons_self,decide_eq_false (by omega),decide_eq_false (by omega),fun y hy=>h2 y (List.mem_cons_of_mem x hy),fun y hy=>?_,d2⟩
   rw[wC,h3 y (List.mem_cons_of_mem x hy),Bool.false_or]
   refine decide_eq_false fun e=>d1 y hy ?_
   simp only[List.cons.injEq,and_true] at e
   exact e.symm
theorem qDi{c:Cir}{p:Pln}{r:Int×List Pt}:qAm c p r=true↔1≤r.1∧r.2.length≤64∧(∀ x∈r.2,qGm c p r.1 x.1 x.2 x.3=true)∧r.2.Pairwise (fun a b=>¬ qSl a b):=by
 rw[qAm,zZ,zZ,qVm]
 constructor
 ·rintro⟨h1,h2,h3,_,h4⟩
  have h1:=of_decide_eq_false h1
  have h2:=of_decide_eq_false h2
  exact⟨by omega,by omega,h3,h4⟩
 ·rintro⟨h1,h2,h3,h4⟩
  exact⟨decide_eq_false (by omega),decide_eq_false (by omega),h3,fun x _=>rfl,h4⟩
theorem qXk{c:Cir}{p:Pln}{u:Int}:wB c p u=true↔p.rg.length≤64∧p.lk.length≤256∧(p.is.length:Int)=c.ins∧(∀ r∈p.rg,qAm c p r=true)∧((∀ t∈p.tb,0≤t.1∧t.1<c.fx)∧p.tb.Pairwise (fun a b=>a.1≠b.1))∧(∀ x∈p.lk,wF c p u x.1.1 x.1.2.1 x.1.2.2=true∧wF c p u x.2.1 x.2.2.1 x.2.2.2=true)∧∀ x∈p.is,(x.length:Int)≤u:=by
 rw[wB,qHp,qHp,qHp,qHp,zZ,zZ,qTu]
 constructor
 ·rintro⟨h1,h2,⟨h3,_,h3'⟩,h4,h5,h6,h7⟩
  have h1:=of_decide_eq_true h1
  have h2:=of_decide_eq_true h2
  have h7':p.lk.any (lkB c p u)=false:=by simpa using h7
  refine⟨by omega,by omega,by simpa using h4,fun r hr=>?_,⟨h3,h3'⟩,fun x hx=>?_,fun x hx=>?_⟩
  ·have:=List.any_eq_false.1 h6 r hr
   simpa[rgN] using this
  ·have:=List.any_eq_false.1 h7' x hx
   rw[lkB] at this
   cases ha:wF c p u x.1.1 x.1.2.1 x.1.2.2 with
   | false=>rw[ha] at this; exact absurd rfl this
   | true =>
    rw[ha] at this
    cases hb:wF c p u x.2.1 x.2.2.1 x.2.2.2 with
    | false=>rw[hb] at this; exact absurd rfl this
    | true=>exact⟨rfl,rfl⟩
  ·have:=List.any_eq_false.1 h5 x hx
   rw[qBe,decide_eq_true_eq] at this
   omega
 ·rintro⟨h1,h2,h4,h6,⟨h3,h3'⟩,h7,h5⟩
  refine⟨decide_eq_true (by omega),decide_eq_true (by omega),⟨h3,fun x _=>rfl,h3'⟩,by rw[h4,beq_self_eq_true],?_,?_,?_⟩
  ·rw[List.any_eq_false]
   intro x hx
   rw[qBe,decide_eq_true_eq]
   have:=h5 x hx
   omega
  ·rw[List.any_eq_false]
   intro r hr
   rw[rgN,h6 r hr]; decide
  ·have:p.lk.any (lkB c p u)=false:=by
    rw[List.any_eq_false]
    intro x hx
    rw[lkB,(h7 x hx).1,(h7 x hx).2]; decide
   rw[this]; rfl
/-! ### where a region may stand: by those ahead of it -/
def qLr(w s:Int)(l:List Pt)(w' t:Int)(l':List Pt):Bool:=bif decide (t+w'≤s) then false else bif decide (s+w≤t) then false else l.any fun x=>l'.any fun y=>decide (x.kd=y.kd)&&decide (x.co=y.co)
def zAo(kl:List (List Int))(ml:List Int)(rs:List (Int×List Pt))(ss:List Int):Prop:=okM kl ml∧ss.length=rs.length∧∀(x:Pt) (n:Nat),qDx kl ml [x.kd,x.co] n=true↔∃ j,j<rs.length∧gI ss j≤n∧(n:Int)<gI ss j+(gRg rs j).1∧∃ y∈(gRg rs j).2,x.kd=y.kd∧x.co=y.co
theorem zDr:zAo [] [] [] []:=⟨qRv,rfl,fun x n=>⟨fun h=>(by rw[zDc] at h; cases h),fun⟨j,hj,_⟩=>absurd hj (Nat.not_lt_zero j)⟩⟩
theorem qRz(l m:List Int){j:Nat}(h:j<l.length):gI (l++m) j=gI l j:=by
 rw[gI,gI,List.getD_eq_getElem?_getD,List.getD_eq_getElem?_getD,List.getElem?_append_left h]
theorem qJw(l:List Int)(s:Int):gI (l++[s]) l.length=s:=by
 rw[gI,List.getD_eq_getElem?_getD,List.getElem?_append_right (Nat.le_refl _),Nat.sub_self]; rfl
theorem qQr(l m:List (Int×List Pt)){j:Nat}(h:j<l.length):gRg (l++m) j=gRg l j:=by
 rw[gRg,gRg,List.getD_eq_getElem?_getD,List.getD_eq_getElem?_getD,List.getElem?_append_left h]
theorem qKt(l:List (Int×List Pt))(r:Int×List Pt):gRg (l++[r]) l.length=r:=by
 rw[gRg,List.getD_eq_getElem?_getD,List.getElem?_append_right (Nat.le_refl _),Nat.sub_self]; rfl
theorem zBg{kl:List (List Int)}{ml:List Int}{rs:List (Int×List Pt)}{ss:List Int}(h:zAo kl ml rs ss){r:Int×List Pt}{s:Int}(h0:0≤s)(h1:1≤r.1)(h2:s+r.1≤28):zAo (xU (yL r.1 s) kl ml r.2).1 (xU (yL r.1 s) kl ml r.2).2 (rs++[r]) (ss++[s]):=by
 obtain⟨hm,hl,hb⟩:=h
 have er:((r.1.toNat:Nat):Int)=r.1:=Int.toNat_of_nonneg (by omega)
 have es:((s.toNat:Nat):Int)=s:=Int.toNat_of_nonneg h0
 have hmk:=qKq r.1.toNat s.toNat (by omega)
 have hmb:=qCi r.1.toNat s.toNat (by omega)
 rw[er,es] at hmk hmb
 obtain⟨m1,m2⟩:=qIn hmk r.2 kl ml hm
 refine⟨m1,by rw[List.length_append,List.length_append,hl]; rfl,fun x n=>?_⟩
 rw[m2,Bool.or_eq_true,Bool.and_eq_true,hb x n,hmb,decide_eq_true_eq]
 constructor
 ·rintro(⟨j,j1,j2,j3,j4⟩ | ⟨a,b⟩)
  ·exact⟨j,by rw[List.length_append]; omega,by rw[qRz _ _ (by omega)]; exact j2,by rw[qRz _ _ (by omega),qQr _ _ j1]; exact j3,by rw[qQr _ _ j1]; exact j4⟩
  ·obtain⟨y,hy,e⟩:=List.any_eq_true.1 a
   have e:=of_decide_eq_true e
   simp only[List.cons.injEq,and_true] at e
   refine⟨rs.length,by rw[List.length_append,List.length_singleton]; omega,?_,?_,?_⟩
   ·rw[← hl,qJw]; omega
   ·rw[qKt,← hl,qJw]; omega
   ·rw[qKt]; exact⟨y,hy,e.1.symm,e.2.symm⟩
 ·rintro⟨j,j1,j2,j3,y,hy,k1,k2⟩
  rw[List.length_append,List.length_singleton] at j1
  rcases Nat.lt_or_ge j rs.length with j0 | j0
  ·rw[qRz _ _ (by omega)] at j2 j3
   rw[qQr _ _ j0] at j3 hy
   exact .inl ⟨j,j0,j2,j3,y,hy,k1,k2⟩
  ·obtain rfl:j=rs.length:=by omega
   rw[qKt] at j3 hy
   rw[← hl,qJw] at j2 j3
   exact .inr ⟨qYz hy k1 k2,by omega⟩
theorem zBf{kl:List (List Int)}{ml:List Int}{rs:List (Int×List Pt)}{ss:List Int}(h:zAo kl ml rs ss)(hr:∀ j,j<rs.length→1≤(gRg rs j).1∧0≤gI ss j){w s:Int}{ps:List Pt}(h0:0≤s)(h1:1≤w)(h2:s+w≤28):ps.any (tkB kl ml (yL w s))=true↔∃ j,j<rs.length∧qLr w s ps (gRg rs j).1 (gI ss j) (gRg rs j).2=true:=by
 obtain⟨hm,hl,hb⟩:=h
 have er:((w.toNat:Nat):Int)=w:=Int.toNat_of_nonneg (by omega)
 have es:((s.toNat:Nat):Int)=s:=Int.toNat_of_nonneg h0
 have key:∀ x:Pt,tkB kl ml (yL w s) x=true↔∃ n:Nat,s≤n∧(n:Int)<s+w∧qDx kl ml [x.kd,x.co] n=true:=by
  intro x
  have e:=qYp hm w.toNat s.toNat (by omega) x
  rw[er,es] at e
  constructor
  ·intro ht
   apply Classical.byContradiction
   intro hno
   have:tkB kl ml (yL w s) x=false:=e.2 fun i i1 i2=>by
    cases hbb:qDx kl ml [x.kd,x.co] i with
    | false=>rfl
    | true=>exact absurd ⟨i,by omega,by omega,hbb⟩ hno
   rw[this] at ht; cases ht
  ·rintro⟨n,n1,n2,n3⟩
   cases ht:tkB kl ml (yL w s) x with
   | true=>rfl
   | false=>rw[e.1 ht n (by omega) (by omega)] at n3; cases n3
 rw[List.any_eq_true]
 constructor
 ·rintro⟨x,hx,ht⟩
  obtain⟨n,n1,n2,n3⟩:=(key x).1 ht
  obtain⟨j,j1,j2,j3,y,hy,k1,k2⟩:=(hb x n).1 n3
  refine⟨j,j1,?_⟩
  rw[qLr,decide_eq_false (by omega),decide_eq_false (by omega),cond_false,cond_false,List.any_eq_true]
  refine⟨x,hx,?_⟩
  rw[List.any_eq_true]
  exact⟨y,hy,by rw[decide_eq_true k1,decide_eq_true k2]; rfl⟩
 ·rintro⟨j,j1,hc⟩
  rw[qLr,zZ,zZ] at hc
  obtain⟨c1,c2,c3⟩:=hc
  have c1:=of_decide_eq_false c1
  have c2:=of_decide_eq_false c2
  obtain⟨x,hx,c4⟩:=List.any_eq_true.1 c3
  obtain⟨y,hy,c5⟩:=List.any_eq_true.1 c4
  rw[Bool.and_eq_true] at c5
  have hj:=hr j j1
  refine⟨x,hx,(key x).2 ⟨(max s (gI ss j)).toNat,by omega,by omega,(hb x _).2 ⟨j,j1,by omega,by omega,y,hy,of_decide_eq_true c5.1,of_decide_eq_true c5.2⟩⟩⟩
end Go.Pl
namespace Go.Proofs.YtlmjdcbhpffanaaGreat
open Go.Sx Go.Pl
set_option linter.unusedVariables false
set_option maxRecDepth 100000
end Go.Proofs.YtlmjdcbhpffanaaGreat
/- The document: is a column a table's, is an end right, do regions clash? -/
namespace Go.Proofs.YtlmjdcbhpffanaaGreat
open Go.Sx Go.Pl
set_option linter.unusedVariables false
set_option maxRecDepth 100000
theorem rtS(p:Pln)(co:Int)(K:List It→St→Prop)(R:SV→List HO→Prop):W (xwp Tryz.prog X qWj [] 60 (qO Tryz.f79 [] [⟨[0,1,0,1],[5,2,1],[]⟩]) [] [.at []] ⟨qQ 0 [.agg [.x 0 [],.x 1 [],.x 2 [],.x 3 []],.v (.int .i64 co)],[.ext false (.s false 2 p.1.length (cRg p.1)),.ext false (.s false 2 p.2.length (cTa p.2)),.ext false (.s false 6 p.3.length (cLk p.3)),.ext false (.s false 1 p.4.length (cT p.4))]⟩ K R)=W (K [.at [0,1,0,1],.blk 0,.at [1,1]] (St.mk [(5,.v (qA 0)),(2,.p 0 0),(1,.v (qA co))] [.cells [.x 1 [],.x 2 [],.x 3 [],.x 4 []] 33,.ext false (.s false 2 p.1.length (cRg p.1)),.ext false (.s false 2 p.2.length (cTa p.2)),.ext false (.s false 6 p.3.length (cLk p.3)),.ext false (.s false 1 p.4.length (cT p.4))])):=by kernel_rfl
theorem rtR(p:Pln)(co:Int)(i M:Nat)(K:List It→St→Prop)(R:SV→List HO→Prop):W (xwp Tryz.prog X qWj [] 60 (qO Tryz.f79 [] [⟨[0,1,0,1],[5,2,1],[]⟩]) [] (.at [0,0,1,0,1]::.rnd [0,0,1,0,1] M::[.blk 0,.at [1,1]]) (St.mk [(5,.v (qA (i:Int))),(2,.p 0 0),(1,.v (qA co))] [.cells [.x 1 [],.x 2 [],.x 3 [],.x 4 []] 33,.ext false (.s false 2 p.1.length (cRg p.1)),.ext false (.s false 2 p.2.length (cTa p.2)),.ext false (.s false 6 p.3.length (cLk p.3)),.ext false (.s false 1 p.4.length (cT p.4))]) K R)=W (bif decide ((↑i:Int)<(↑p.2.length:Int)) then(∀ M:Mem,(0:Int)≤(↑i:Int)∧(↑i:Int)<(↑p.2.length:Int))∧(∀ M:Mem,i<List.length p.2)∧(∀ M:Mem,i<List.length p.2)∧bif(gTa p.2 i).1==co then R (.v (.bool true)) [] else K [.rnd [0,0,1,0,1] M,.blk 0,.at [1,1]] (St.mk [(5,.v (qA (IntKind.wrap .i64 ((↑i:Int)+(1:Int))))),(2,.p 0 0),(1,.v (qA co))] [.cells [.x 1 [],.x 2 [],.x 3 [],.x 4 []] 33,.ext false (.s false 2 p.1.length (cRg p.1)),.ext false (.s false 2 p.2.length (cTa p.2)),.ext false (.s false 6 p.3.length (cLk p.3)),.ext false (.s false 1 p.4.length (cT p.4))]) else R (.v (.bool false)) []):=by kernel_rfl
theorem zTf(c:Cir)(p:Pln)(u er ec eo:Int)(K:List It→St→Prop)(R:SV→List HO→Prop):W (xwp Tryz.prog X qWj [] 60 (qO Tryz.f42 [] []) [] [.at []] ⟨qQ 0 [.agg [.v (.int .i64 c.fx),.v (.int .i64 c.ad),.v (.int .i64 c.ins),.x 0 [],.x 1 [],.x 2 [],.x 3 []],.v (.int .i64 u),.agg [.x 4 [],.x 5 [],.x 6 [],.x 7 []],.agg [.v (.int .i64 er),.v (.int .i64 ec),.v (.int .i64 eo)]],[.ext false (.s false 7 c.4.length (cN c.4)),.ext false (.s false 1 c.5.length (cI c.5)),.ext false (.s false 2 c.6.length (cL c.6)),.ext false (.s false 2 c.7.length (cK c.7)),.ext false (.s false 2 p.1.length (cRg p.1)),.ext false (.s false 2 p.2.length (cTa p.2)),.ext false (.s false 6 p.3.length (cLk p.3)),.ext false (.s false 1 p.4.length (cT p.4))]⟩ K R)=W (bif decide (ec<(0:Int)) then R (.v (.bool false)) [] else bif decide ((↑c.7.length:Int)≤ec) then R (.v (.bool false)) [] else bif decide (eo<(0:Int)) then R (.v (.bool false)) [] else bif er==(-1:Int) then R (.v (.bool (decide (eo<u)))) [] else bif decide ((0:Int)≤er) then bif decide (er<(↑p.1.length:Int)) then(∀ M:Mem,(0:Int)≤ec∧ec<(↑c.7.length:Int))∧(∀ M:Mem,Int.toNat ec<List.length c.7)∧(∀ M:Mem,Int.toNat ec<List.length c.7)∧bif !(gK c.7 (Int.toNat ec)).1==(4:Int) then(∀ M:Mem,(0:Int)≤er∧er<(↑p.1.length:Int))∧(∀ M:Mem,Int.toNat er<List.length p.1)∧(∀ M:Mem,Int.toNat er<List.length p.1)∧R (.v (.bool (decide (eo<(gRg p.1 (Int.toNat er)).1)))) [] else R (.v (.bool false)) [] else R (.v (.bool false)) [] else R (.v (.bool false)) []):=by kernel_rfl
theorem zUu(l m:List Pt)(w s v t:Int)(K:List It→St→Prop)(R:SV→List HO→Prop):W (xwp Tryz.prog X qWj [] 60 (qO Tryz.f47 [] [⟨[0,1,0,1,1],[9,6,4],[]⟩,⟨[0,1,0,0,1,0,0,1,0,1,1],[10,9,6,4],[]⟩]) [] [.at []] ⟨qQ 0 [.agg [.v (.int .i64 w),.x 0 []],.v (.int .i64 s),.agg [.v (.int .i64 v),.x 1 []],.v (.int .i64 t)],[.ext false (.s false 7 l.length (cPt l)),.ext false (.s false 7 m.length (cPt m))]⟩ K R)=W (bif decide (IntKind.wrap .i64 (t+v)≤s) then R (.v (.bool false)) [] else bif decide (IntKind.wrap .i64 (s+w)≤t) then R (.v (.bool false)) [] else K [.at [0,1,0,1,1],.blk 0,.at [1,1,1]] (St.mk [(9,.v (qA 0)),(6,.p 0 0),(4,.p 1 0)] [.cells [.v (qA v),.x 2 []] 50,.cells [.v (qA w),.x 3 []] 50,.ext false (.s false 7 m.length (cPt m)),.ext false (.s false 7 l.length (cPt l))])):=by kernel_rfl
theorem zQm(l m:List Pt)(w s v t:Int)(i M:Nat)(K:List It→St→Prop)(R:SV→List HO→Prop):W (xwp Tryz.prog X qWj [] 60 (qO Tryz.f47 [] [⟨[0,1,0,1,1],[9,6,4],[]⟩,⟨[0,1,0,0,1,0,0,1,0,1,1],[10,9,6,4],[]⟩]) [] (.at [0,0,1,0,1,1]::.rnd [0,0,1,0,1,1] M::[.blk 0,.at [1,1,1]]) (St.mk [(9,.v (qA (i:Int))),(6,.p 0 0),(4,.p 1 0)] [.cells [.v (qA v),.x 2 []] 50,.cells [.v (qA w),.x 3 []] 50,.ext false (.s false 7 m.length (cPt m)),.ext false (.s false 7 l.length (cPt l))]) K R)=W (bif decide ((↑i:Int)<(↑l.length:Int)) then K [.at [0,1,0,0,1,0,0,1,0,1,1],.blk 2,.blk 1,.at [1,1,0,0,1,0,1,1],.rnd [0,0,1,0,1,1] M,.blk 0,.at [1,1,1]] (St.mk [(10,.v (qA 0)),(9,.v (qA (↑i:Int))),(6,.p 0 0),(4,.p 1 0)] [.cells [.v (qA v),.x 2 []] 50,.cells [.v (qA w),.x 3 []] 50,.ext false (.s false 7 m.length (cPt m)),.ext false (.s false 7 l.length (cPt l))]) else R (.v (.bool false)) []):=by kernel_rfl
theorem zRb(l m:List Pt)(w s v t:Int)(i j M M2:Nat)(K:List It→St→Prop)(R:SV→List HO→Prop):W (xwp Tryz.prog X qWj [] 60 (qO Tryz.f47 [] [⟨[0,1,0,1,1],[9,6,4],[]⟩,⟨[0,1,0,0,1,0,0,1,0,1,1],[10,9,6,4],[]⟩]) [] (.at [0,0,1,0,0,1,0,0,1,0,1,1]::.rnd [0,0,1,0,0,1,0,0,1,0,1,1] M::[.blk 2,.blk 1,.at [1,1,0,0,1,0,1,1],.rnd [0,0,1,0,1,1] M2,.blk 0,.at [1,1,1]]) (St.mk [(10,.v (qA (j:Int))),(9,.v (qA (↑i:Int))),(6,.p 0 0),(4,.p 1 0)] [.cells [.v (qA v),.x 2 []] 50,.cells [.v (qA w),.x 3 []] 50,.ext false (.s false 7 m.length (cPt m)),.ext false (.s false 7 l.length (cPt l))]) K R)=W (bif decide ((↑j:Int)<(↑m.length:Int)) then(∀ M:Mem,(0:Int)≤(↑i:Int)∧(↑i:Int)<(↑l.length:Int))∧(∀ M:Mem,i<List.length l)∧(∀ M:Mem,i<List.length l)∧(∀ M:Mem,(0:Int)≤(↑j:Int)∧(↑j:Int)<(↑m.length:Int))∧(∀ M:Mem,j<List.length m)∧(∀ M:Mem,j<List.length m)∧bif(gPt l i).1==(gPt m j).1 then(∀ M:Mem,(0:Int)≤(↑i:Int)∧(↑i:Int)<(↑l.length:Int))∧(∀ M:Mem,i<List.length l)∧(∀ M:Mem,i<List.length l)∧(∀ M:Mem,(0:Int)≤(↑j:Int)∧(↑j:Int)<(↑m.length:Int))∧(∀ M:Mem,j<List.length m)∧(∀ M:Mem,j<List.length m)∧bif(gPt l i).2==(gPt m j).2 then R (.v (.bool true)) [] else K [.rnd [0,0,1,0,0,1,0,0,1,0,1,1] M,.blk 2,.blk 1,.at [1,1,0,0,1,0,1,1],.rnd [0,0,1,0,1,1] M2,.blk 0,.at [1,1,1]] (St.mk [(10,.v (qA (IntKind.wrap .i64 ((↑j:Int)+(1:Int))))),(9,.v (qA (↑i:Int))),(6,.p 0 0),(4,.p 1 0)] [.cells [.v (qA v),.x 2 []] 50,.cells [.v (qA w),.x 3 []] 50,.ext false (.s false 7 m.length (cPt m)),.ext false (.s false 7 l.length (cPt l))]) else K [.rnd [0,0,1,0,0,1,0,0,1,0,1,1] M,.blk 2,.blk 1,.at [1,1,0,0,1,0,1,1],.rnd [0,0,1,0,1,1] M2,.blk 0,.at [1,1,1]] (St.mk [(10,.v (qA (IntKind.wrap .i64 ((↑j:Int)+(1:Int))))),(9,.v (qA (↑i:Int))),(6,.p 0 0),(4,.p 1 0)] [.cells [.v (qA v),.x 2 []] 50,.cells [.v (qA w),.x 3 []] 50,.ext false (.s false 7 m.length (cPt m)),.ext false (.s false 7 l.length (cPt l))]) else K [.rnd [0,0,1,0,1,1] M2,.blk 0,.at [1,1,1]] (St.mk [(9,.v (qA (IntKind.wrap .i64 ((↑i:Int)+(1:Int))))),(6,.p 0 0),(4,.p 1 0)] [.cells [.v (qA v),.x 2 []] 50,.cells [.v (qA w),.x 3 []] 50,.ext false (.s false 7 m.length (cPt m)),.ext false (.s false 7 l.length (cPt l))])):=by kernel_rfl
theorem zBd{co:Int}{l:List (Int×List Nat)}{i:Nat}(h:i<l.length):(l.drop i).any (qCg co)=(qCg co (gTa l i)||(l.drop (i+1)).any (qCg co)):=by
 rw[qEd h,List.any_cons]
theorem qZp(p:Pln)(hp:p.ok)(co:Int)(Q:SV→List HO→Prop):∀(d i:Nat),i+d=p.tb.length→Q (.v (.bool ((p.tb.drop i).any (qCg co)))) [] →
  FOk Tryz.prog Tryz.f79 Q (.rnd [0,0,1,0,1] (d+1)::[.blk 0,.at [1,1]]) (St.mk [(5,SV.v (qA (i:Int))),(2,SV.p 0 0),(1,SV.v (qA co))] [HO.cells [SV.x 1 [],SV.x 2 [],SV.x 3 [],SV.x 4 []] 33,HO.ext false (qB.s false 2 (List.length p.1) (cRg p.1)),HO.ext false (qB.s false 2 (List.length p.2) (cTa p.2)),HO.ext false (qB.s false 6 (List.length p.3) (cLk p.3)),HO.ext false (qB.s false 1 (List.length p.4) (cT p.4))])
 | 0,i,hd,hq=>by
  refine FOk.rnd (qC hm 60 ((rtR p co i 0 _ _).mpr ⟨?_⟩))
  rw[qD,if_neg (by omega)]
  rw[List.drop_eq_nil_of_le (by omega)] at hq
  exact hq
 | d+1,i,hd,hq=>by
  have hi:i<p.tb.length:=by omega
  have hb:=hp.t.2
  rw[zBd hi] at hq
  refine FOk.rnd (qC hm 60 ((rtR p co i (d+1) _ _).mpr ⟨?_⟩))
  rw[qD,if_pos (by omega),qK _ (by omega)]
  repeat' (refine And.intro (fun _=>by omega) ?_)
  refine qJ (fun h=>?_) (fun h=>?_)
  ·have h:qCg co (gTa p.tb i)=true:=h
   rw[h] at hq; exact hq
  ·have h:qCg co (gTa p.tb i)=false:=h
   rw[h] at hq; exact qZp p hp co Q d (i+1) (by omega) hq
theorem bRt:Tryz.f79.body.isSome=true:=by kernel_rfl
theorem nRt(co:Int):Nat.ble ([.agg [.x 0 [],.x 1 [],.x 2 [],.x 3 []],.v (.int .i64 co)]:List SV).length Tryz.f79.ntmps=true:=by kernel_rfl
theorem zSc(p:Pln)(hp:p.ok)(co:Int)(Q:SV→List HO→Prop)(hq:Q (.v (.bool (p.tb.any (qCg co)))) []):qI Tryz.prog 79 [.agg [.x 0 [],.x 1 [],.x 2 [],.x 3 []],.v (.int .i64 co)] [.ext false (.s false 2 p.1.length (cRg p.1)),.ext false (.s false 2 p.2.length (cTa p.2)),.ext false (.s false 6 p.3.length (cLk p.3)),.ext false (.s false 1 p.4.length (cT p.4))] Q:=by
 refine qL Tryz.func79 bRt (nRt co) ?_
 refine qC hm 60 ((rtS p co _ _).mpr ⟨?_⟩)
 exact FOk.loop (p.tb.length+1) (by kernel_rfl) (qZp p hp co Q p.tb.length 0 (by omega) (by rw[List.drop_zero]; exact hq))
noncomputable def gRt:List SV→List HO→Option ((SV→List HO→Prop)→Prop)
 | [.agg [.x 0 [],.x 1 [],.x 2 [],.x 3 []],.v (.int .i64 co)],[.ext false (.s false 2 m0 d0),.ext false (.s false 2 m1 d1),.ext false (.s false 6 m2 d2),.ext false (.s false 1 m3 d3)] =>
  some fun Q=>lPn m0 m1 m2 m3 d0 d1 d2 d3 fun p=>Q (.v (.bool (p.tb.any (qCg co)))) []
 | _,_=>none
theorem zNs(args:List SV)(h:List HO)(tr:(SV→List HO→Prop)→Prop)(Q:SV→List HO→Prop)(hc:gRt args h=some tr)(ht:tr Q):qI Tryz.prog 79 args h Q:=by
 unfold gRt at hc
 split at hc
 ·simp only[sI] at hc
  subst hc
  obtain⟨p,⟨rfl,e4⟩,⟨rfl,e5⟩,⟨rfl,e6⟩,⟨rfl,e7⟩,hp,hq⟩:=ht.h
  exact qI.ac (zSc p hp _ Q hq) ⟨⟨rfl,rfl,rfl,rfl,e4⟩,⟨rfl,rfl,rfl,rfl,e5⟩,⟨rfl,rfl,rfl,rfl,e6⟩,⟨rfl,rfl,rfl,rfl,e7⟩,trivial⟩
 ·cases hc
theorem zSg:Tryz.f42.body.isSome=true:=by kernel_rfl
theorem zRo(c:Cir)(u er ec eo:Int):Nat.ble ([.agg [.v (.int .i64 c.fx),.v (.int .i64 c.ad),.v (.int .i64 c.ins),.x 0 [],.x 1 [],.x 2 [],.x 3 []],.v (.int .i64 u),.agg [.x 4 [],.x 5 [],.x 6 [],.x 7 []],.agg [.v (.int .i64 er),.v (.int .i64 ec),.v (.int .i64 eo)]]:List SV).length Tryz.f42.ntmps=true:=by kernel_rfl
theorem zIa(c:Cir)(p:Pln)(u er ec eo:Int)(Q:SV→List HO→Prop)(hq:Q (.v (.bool (wF c p u er ec eo))) []):qI Tryz.prog 42 [.agg [.v (.int .i64 c.fx),.v (.int .i64 c.ad),.v (.int .i64 c.ins),.x 0 [],.x 1 [],.x 2 [],.x 3 []],.v (.int .i64 u),.agg [.x 4 [],.x 5 [],.x 6 [],.x 7 []],.agg [.v (.int .i64 er),.v (.int .i64 ec),.v (.int .i64 eo)]] [.ext false (.s false 7 c.4.length (cN c.4)),.ext false (.s false 1 c.5.length (cI c.5)),.ext false (.s false 2 c.6.length (cL c.6)),.ext false (.s false 2 c.7.length (cK c.7)),.ext false (.s false 2 p.1.length (cRg p.1)),.ext false (.s false 2 p.2.length (cTa p.2)),.ext false (.s false 6 p.3.length (cLk p.3)),.ext false (.s false 1 p.4.length (cT p.4))] Q:=by
 refine qL Tryz.func42 zSg (zRo c u er ec eo) ?_
 refine qC hm 60 ((zTf c p u er ec eo _ _).mpr ⟨?_⟩)
 rw[wF] at hq
 refine qJ (fun h=>by rw[h] at hq; exact hq) (fun h0=>?_)
 rw[h0,cond_false] at hq
 refine qJ (fun h=>by rw[h] at hq; exact hq) (fun h1=>?_)
 rw[h1,cond_false] at hq
 refine qJ (fun h=>by rw[h] at hq; exact hq) (fun h2=>?_)
 rw[h2,cond_false] at hq
 have h0:=of_decide_eq_false h0
 have h1:=of_decide_eq_false h1
 rw[zC]
 refine qG (fun h=>?_) (fun h=>?_)
 ·rw[decide_eq_false (by omega),cond_false,decide_eq_false (by omega),cond_false,decide_eq_true (by omega),cond_true] at hq
  exact hq
 ·refine qJ (fun h3=>?_) (fun h3=>?_)
  ·have h3:=of_decide_eq_true h3
   rw[decide_eq_false (by omega),cond_false] at hq
   refine qJ (fun h4=>?_) (fun h4=>?_)
   ·have h4:=of_decide_eq_true h4
    rw[decide_eq_false (by omega),cond_false,decide_eq_false (by omega),cond_false] at hq
    repeat' (refine And.intro (fun _=>by omega) ?_)
    refine qJ (fun h5=>?_) (fun h5=>?_)
    ·rw[h5,cond_true] at hq
     repeat' (refine And.intro (fun _=>by omega) ?_)
     exact hq
    ·rw[h5] at hq; exact hq
   ·have h4:=of_decide_eq_false h4
    rw[decide_eq_true (by omega),cond_true] at hq
    exact hq
  ·have h3:=of_decide_eq_false h3
   rw[decide_eq_true (by omega),cond_true] at hq
   exact hq
noncomputable def zEh:List SV→List HO→Option ((SV→List HO→Prop)→Prop)
 | [.agg [.v (.int .i64 fx),.v (.int .i64 ad),.v (.int .i64 ins),.x 0 [],.x 1 [],.x 2 [],.x 3 []],.v (.int .i64 u),.agg [.x 4 [],.x 5 [],.x 6 [],.x 7 []],.agg [.v (.int .i64 er),.v (.int .i64 ec),.v (.int .i64 eo)]],[.ext false (.s false 7 n0 c0),.ext false (.s false 1 n1 c1),.ext false (.s false 2 n2 c2),.ext false (.s false 2 n3 c3),.ext false (.s false 2 m0 d0),.ext false (.s false 2 m1 d1),.ext false (.s false 6 m2 d2),.ext false (.s false 1 m3 d3)] =>
  some fun Q=>lSh fx ad ins n0 n1 n2 n3 m0 m1 m2 m3 c0 c1 c2 c3 d0 d1 d2 d3 fun c p=>Q (.v (.bool (wF c p u er ec eo))) []
 | _,_=>none
theorem zFd(args:List SV)(h:List HO)(tr:(SV→List HO→Prop)→Prop)(Q:SV→List HO→Prop)(hc:zEh args h=some tr)(ht:tr Q):qI Tryz.prog 42 args h Q:=by
 unfold zEh at hc
 split at hc
 ·simp only[sI] at hc
  subst hc
  obtain⟨c,rfl,rfl,rfl,⟨rfl,e0⟩,⟨rfl,e1⟩,⟨rfl,e2⟩,⟨rfl,e3⟩,hk,ht2⟩:=ht.h.h
  obtain⟨p,⟨rfl,e4⟩,⟨rfl,e5⟩,⟨rfl,e6⟩,⟨rfl,e7⟩,hp,hq⟩:=ht2.h
  exact qI.ac (zIa c p _ _ _ _ Q hq) ⟨⟨rfl,rfl,rfl,rfl,e0⟩,⟨rfl,rfl,rfl,rfl,e1⟩,⟨rfl,rfl,rfl,rfl,e2⟩,⟨rfl,rfl,rfl,rfl,e3⟩,⟨rfl,rfl,rfl,rfl,e4⟩,⟨rfl,rfl,rfl,rfl,e5⟩,⟨rfl,rfl,rfl,rfl,e6⟩,⟨rfl,rfl,rfl,rfl,e7⟩,trivial⟩
 ·cases hc
def qQn(x:Pt)(m:List Pt):Bool:=m.any fun y=>decide (x.kd=y.kd)&&decide (x.co=y.co)
theorem zBn{x:Pt}{m:List Pt}{j:Nat}(h:j<m.length):qQn x (m.drop j)=(decide (x.kd=(gPt m j).kd)&&decide (x.co=(gPt m j).co)||qQn x (m.drop (j+1))):=by
 rw[qAk h,qQn,List.any_cons]; rfl
theorem zAz{l m:List Pt}{i:Nat}(h:i<l.length):(l.drop i).any (fun x=>qQn x m)=(qQn (gPt l i) m||(l.drop (i+1)).any (fun x=>qQn x m)):=by
 rw[qAk h,List.any_cons]
theorem qIm(l m:List Pt)(w s v t:Int)(hl:l.length≤4000000000000)(hm2:m.length≤4000000000000)(i M2:Nat)(hi:i<l.length)(Q:SV→List HO→Prop):∀(d j:Nat),j+d=m.length→(qQn (gPt l i) (m.drop j)=false→FOk Tryz.prog Tryz.f47 Q (.rnd [0,0,1,0,1,1] M2::[.blk 0,.at [1,1,1]]) (St.mk [(9,SV.v (qA ((i+1:Nat):Int))),(6,SV.p 0 0),(4,SV.p 1 0)] [HO.cells [SV.v (qA v),SV.x 2 []] 50,HO.cells [SV.v (qA w),SV.x 3 []] 50,HO.ext false (qB.s false 7 m.length (cPt m)),HO.ext false (qB.s false 7 l.length (cPt l))]))→(qQn (gPt l i) (m.drop j)=true→Q (.v (.bool true)) []) →
  FOk Tryz.prog Tryz.f47 Q (.rnd [0,0,1,0,0,1,0,0,1,0,1,1] (d+1)::[.blk 2,.blk 1,.at [1,1,0,0,1,0,1,1],.rnd [0,0,1,0,1,1] M2,.blk 0,.at [1,1,1]]) (St.mk [(10,SV.v (qA (j:Int))),(9,SV.v (qA (↑i:Int))),(6,SV.p 0 0),(4,SV.p 1 0)] [HO.cells [SV.v (qA v),SV.x 2 []] 50,HO.cells [SV.v (qA w),SV.x 3 []] 50,HO.ext false (qB.s false 7 m.length (cPt m)),HO.ext false (qB.s false 7 l.length (cPt l))])
 | 0,j,hd,h0,h1=>by
  refine FOk.rnd (qC hm 60 ((zRb l m w s v t i j 0 M2 _ _).mpr ⟨?_⟩))
  rw[List.drop_eq_nil_of_le (by omega)] at h0
  rw[qD,if_neg (by omega),qK i (by omega)]
  exact h0 rfl
 | d+1,j,hd,h0,h1=>by
  have hj:j<m.length:=by omega
  rw[zBn hj] at h0 h1
  refine FOk.rnd (qC hm 60 ((zRb l m w s v t i j (d+1) M2 _ _).mpr ⟨?_⟩))
  rw[qD,if_pos (by omega),qK j (by omega)]
  repeat' (refine And.intro (fun _=>by omega) ?_)
  rw[zC]
  refine qG (fun a=>?_) (fun a=>?_)
  ·repeat' (refine And.intro (fun _=>by omega) ?_)
   rw[zC]
   refine qG (fun b=>h1 (by rw[decide_eq_true a,decide_eq_true b]; rfl)) (fun b=>?_)
   rw[decide_eq_false b,Bool.and_false,Bool.false_or] at h0 h1
   exact qIm l m w s v t hl hm2 i M2 hi Q d (j+1) (by omega) h0 h1
  ·rw[decide_eq_false a,Bool.false_and,Bool.false_or] at h0 h1
   exact qIm l m w s v t hl hm2 i M2 hi Q d (j+1) (by omega) h0 h1
theorem qPq(l m:List Pt)(w s v t:Int)(hl:l.length≤4000000000000)(hm2:m.length≤4000000000000)(Q:SV→List HO→Prop):∀(d i:Nat),i+d=l.length→Q (.v (.bool ((l.drop i).any fun x=>qQn x m))) [] →
  FOk Tryz.prog Tryz.f47 Q (.rnd [0,0,1,0,1,1] (d+1)::[.blk 0,.at [1,1,1]]) (St.mk [(9,SV.v (qA (i:Int))),(6,SV.p 0 0),(4,SV.p 1 0)] [HO.cells [SV.v (qA v),SV.x 2 []] 50,HO.cells [SV.v (qA w),SV.x 3 []] 50,HO.ext false (qB.s false 7 m.length (cPt m)),HO.ext false (qB.s false 7 l.length (cPt l))])
 | 0,i,hd,hq=>by
  refine FOk.rnd (qC hm 60 ((zQm l m w s v t i 0 _ _).mpr ⟨?_⟩))
  rw[List.drop_eq_nil_of_le (by omega)] at hq
  rw[qD,if_neg (by omega)]
  exact hq
 | d+1,i,hd,hq=>by
  have hi:i<l.length:=by omega
  rw[zAz hi] at hq
  refine FOk.rnd (qC hm 60 ((zQm l m w s v t i (d+1) _ _).mpr ⟨?_⟩))
  rw[qD,if_pos (by omega)]
  refine FOk.loop (m.length+1) (by kernel_rfl) (qIm l m w s v t hl hm2 i (d+1) hi Q m.length 0 (by omega) (fun h=>?_) (fun h=>?_))
  ·rw[List.drop_zero] at h
   rw[h,Bool.false_or] at hq
   exact qPq l m w s v t hl hm2 Q d (i+1) (by omega) hq
  ·rw[List.drop_zero] at h
   rw[h] at hq; exact hq
theorem zVq:Tryz.f47.body.isSome=true:=by kernel_rfl
theorem zUf(w s v t:Int):Nat.ble ([.agg [.v (.int .i64 w),.x 0 []],.v (.int .i64 s),.agg [.v (.int .i64 v),.x 1 []],.v (.int .i64 t)]:List SV).length Tryz.f47.ntmps=true:=by kernel_rfl
theorem zLf(l m:List Pt)(w s v t:Int)(hl:l.length≤4000000000000)(hm2:m.length≤4000000000000)(h1:(0≤w∧w≤1000000)∧(0≤s∧s≤1000000)∧(0≤v∧v≤1000000)∧0≤t∧t≤1000000)(Q:SV→List HO→Prop)(hq:Q (.v (.bool (qLr w s l v t m))) []):qI Tryz.prog 47 [.agg [.v (.int .i64 w),.x 0 []],.v (.int .i64 s),.agg [.v (.int .i64 v),.x 1 []],.v (.int .i64 t)] [.ext false (.s false 7 l.length (cPt l)),.ext false (.s false 7 m.length (cPt m))] Q:=by
 refine qL Tryz.func47 zVq (zUf w s v t) ?_
 refine qC hm 60 ((zUu l m w s v t _ _).mpr ⟨?_⟩)
 rw[qLr] at hq
 rw[zE (t+v) (by omega),zE (s+w) (by omega)]
 refine qJ (fun h=>by rw[h] at hq; exact hq) (fun h=>?_)
 rw[h,cond_false] at hq
 refine qJ (fun h=>by rw[h] at hq; exact hq) (fun h=>?_)
 rw[h,cond_false] at hq
 exact FOk.loop (l.length+1) (by kernel_rfl) (qPq l m w s v t hl hm2 Q l.length 0 (by omega) (by rw[List.drop_zero]; exact hq))
end Go.Proofs.YtlmjdcbhpffanaaGreat
namespace Go.Pl
open Go.Sx
structure zKm (n m:Nat) (c d:Nat→Nat→qB) (w s v t:Int) (k:Bool→Prop):Prop where
 h:∃ l l2:List Pt,n=l.length∧IsC n 7 c (cPt l)∧m=l2.length∧IsC m 7 d (cPt l2)∧l.length≤4000000000000∧l2.length≤4000000000000∧((0≤w∧w≤1000000)∧(0≤s∧s≤1000000)∧(0≤v∧v≤1000000)∧0≤t∧t≤1000000)∧k (qLr w s l v t l2)
theorem zGg(l l2:List Pt){w s v t:Int}(h1:l.length≤4000000000000)(h2:l2.length≤4000000000000)(h3:(0≤w∧w≤1000000)∧(0≤s∧s≤1000000)∧(0≤v∧v≤1000000)∧0≤t∧t≤1000000){k:Bool→Prop}(hk:k (qLr w s l v t l2)):zKm l.length l2.length (cPt l) (cPt l2) w s v t k:=⟨⟨l,l2,rfl,IsC.refl _ _ _,rfl,IsC.refl _ _ _,h1,h2,h3,hk⟩⟩
end Go.Pl
namespace Go.Proofs.YtlmjdcbhpffanaaGreat
open Go.Sx Go.Pl
set_option linter.unusedVariables false
set_option maxRecDepth 100000
noncomputable def zJl:List SV→List HO→Option ((SV→List HO→Prop)→Prop)
 | [.agg [.v (.int .i64 w),.x 0 []],.v (.int .i64 s),.agg [.v (.int .i64 v),.x 1 []],.v (.int .i64 t)],[.ext false (.s false 7 n c),.ext false (.s false 7 m d)]=>some fun Q=>zKm n m c d w s v t fun b=>Q (.v (.bool b)) []
 | _,_=>none
theorem zFu(args:List SV)(h:List HO)(tr:(SV→List HO→Prop)→Prop)(Q:SV→List HO→Prop)(hc:zJl args h=some tr)(ht:tr Q):qI Tryz.prog 47 args h Q:=by
 unfold zJl at hc
 split at hc
 ·simp only[sI] at hc
  subst hc
  obtain⟨l,l2,rfl,e1,rfl,e2,b1,b2,b3,hq⟩:=ht.h
  exact qI.ac (zLf l l2 _ _ _ _ b1 b2 b3 Q hq) ⟨⟨rfl,rfl,rfl,rfl,e1⟩,⟨rfl,rfl,rfl,rfl,e2⟩,trivial⟩
 ·cases hc
noncomputable def zGh:Con Tryz.prog:=((qWj.add 79 gRt zNs).add 42 zEh zFd).add 47 zJl zFu
end Go.Proofs.YtlmjdcbhpffanaaGreat
/- The document: is a region right? -/
namespace Go.Pl
open Go.Sx
structure lPp (n:Nat) (c:Nat→Nat→qB) (k:List Pt→Prop):Prop where
 h:∃ ps:List Pt,n=ps.length∧IsC n 7 c (cPt ps)∧ps.length≤4000000000000∧k ps
theorem zNf(ps:List Pt)(h:ps.length≤4000000000000){k:List Pt→Prop}(hk:k ps):lPp ps.length (cPt ps) k:=⟨⟨ps,rfl,IsC.refl _ _ _,h,hk⟩⟩
end Go.Pl
namespace Go.Proofs.YtlmjdcbhpffanaaGreat
open Go.Sx Go.Pl
set_option linter.unusedVariables false
set_option maxRecDepth 100000
theorem zVu(c:Cir)(p:Pln)(w:Int)(l:List Pt)(K:List It→St→Prop)(R:SV→List HO→Prop):W (xwp Tryz.prog X zGh [] 60 (qO Tryz.f41 [] [⟨[0,1,0,1,1],[7,5,4,3],[]⟩,⟨[0,1,1,1,1,1,0,0,1,0,0,1,0,1,1],[10,8,7,5,4,3],[]⟩]) [] [.at []] ⟨qQ 0 [.agg [.v (.int .i64 c.fx),.v (.int .i64 c.ad),.v (.int .i64 c.ins),.x 0 [],.x 1 [],.x 2 [],.x 3 []],.agg [.x 4 [],.x 5 [],.x 6 [],.x 7 []],.agg [.v (.int .i64 w),.x 8 []]],[.ext false (.s false 7 c.4.length (cN c.4)),.ext false (.s false 1 c.5.length (cI c.5)),.ext false (.s false 2 c.6.length (cL c.6)),.ext false (.s false 2 c.7.length (cK c.7)),.ext false (.s false 2 p.1.length (cRg p.1)),.ext false (.s false 2 p.2.length (cTa p.2)),.ext false (.s false 6 p.3.length (cLk p.3)),.ext false (.s false 1 p.4.length (cT p.4)),.ext false (.s false 7 l.length (cPt l))]⟩ K R)=W (bif decide (w<(1:Int)) then R (.v (.bool false)) [] else bif decide ((64:Int)<(↑l.length:Int)) then R (.v (.bool false)) [] else K [.at [0,1,0,1,1],.blk 0,.at [1,1,1]] (St.mk [(7,.v (qA 0)),(5,.p 0 0),(4,.p 1 0),(3,.p 2 0)] [.cells [.v (qA w),.x 3 []] 50,.cells [.x 4 [],.x 5 [],.x 6 [],.x 7 []] 33,.cells [.v (qA c.1),.v (qA c.2),.v (qA c.3),.x 8 [],.x 9 [],.x 10 [],.x 11 []] 27,.ext false (.s false 7 l.length (cPt l)),.ext false (.s false 2 p.1.length (cRg p.1)),.ext false (.s false 2 p.2.length (cTa p.2)),.ext false (.s false 6 p.3.length (cLk p.3)),.ext false (.s false 1 p.4.length (cT p.4)),.ext false (.s false 7 c.4.length (cN c.4)),.ext false (.s false 1 c.5.length (cI c.5)),.ext false (.s false 2 c.6.length (cL c.6)),.ext false (.s false 2 c.7.length (cK c.7))])):=by kernel_rfl
theorem zTh(c:Cir)(p:Pln)(w:Int)(l:List Pt)(i M:Nat)(K:List It→St→Prop)(R:SV→List HO→Prop):W (xwp Tryz.prog X zGh [] 60 (qO Tryz.f41 [] [⟨[0,1,0,1,1],[7,5,4,3],[]⟩,⟨[0,1,1,1,1,1,0,0,1,0,0,1,0,1,1],[10,8,7,5,4,3],[]⟩]) [] (.at [0,0,1,0,1,1]::.rnd [0,0,1,0,1,1] M::[.blk 0,.at [1,1,1]]) (St.mk [(7,.v (qA (i:Int))),(5,.p 0 0),(4,.p 1 0),(3,.p 2 0)] [.cells [.v (qA w),.x 3 []] 50,.cells [.x 4 [],.x 5 [],.x 6 [],.x 7 []] 33,.cells [.v (qA c.1),.v (qA c.2),.v (qA c.3),.x 8 [],.x 9 [],.x 10 [],.x 11 []] 27,.ext false (.s false 7 l.length (cPt l)),.ext false (.s false 2 p.1.length (cRg p.1)),.ext false (.s false 2 p.2.length (cTa p.2)),.ext false (.s false 6 p.3.length (cLk p.3)),.ext false (.s false 1 p.4.length (cT p.4)),.ext false (.s false 7 c.4.length (cN c.4)),.ext false (.s false 1 c.5.length (cI c.5)),.ext false (.s false 2 c.6.length (cL c.6)),.ext false (.s false 2 c.7.length (cK c.7))]) K R)=W (bif decide ((↑i:Int)<(↑l.length:Int)) then(∀ M:Mem,(0:Int)≤(↑i:Int)∧(↑i:Int)<(↑l.length:Int))∧(∀ M:Mem,i<List.length l)∧(∀ M:Mem,0+7≤7)∧bif(gPt l i).1==(3:Int) then bif !(gPt l i).1==(2:Int) then bif !(gPt l i).1==(3:Int) then R (.v (.bool false)) [] else bif decide ((gPt l i).2<(0:Int)) then R (.v (.bool false)) [] else bif decide (c.2≤(gPt l i).2) then R (.v (.bool false)) [] else bif decide ((gPt l i).3<(0:Int)) then R (.v (.bool false)) [] else bif decide (w≤(gPt l i).3) then R (.v (.bool false)) [] else bif(gPt l i).1==(2:Int) then lPn p.1.length p.2.length p.3.length p.4.length (cRg p.1) (cTa p.2) (cLk p.3) (cT p.4) fun(p_1:Pln)=>bif List.any p_1.2 (qCg (gPt l i).2) then R (.v (.bool false)) [] else K [.at [0,1,1,1,1,1,0,0,1,0,0,1,0,1,1],.blk 2,.blk 1,.at [1,1,0,0,1,0,1,1],.rnd [0,0,1,0,1,1] M,.blk 0,.at [1,1,1]] (St.mk [(10,.v (qA 0)),(8,.p 0 0),(7,.v (qA (↑i:Int))),(5,.p 1 0),(4,.p 2 0),(3,.p 3 0)] [.cells [.v (qA (gPt l i).1),.v (qA (gPt l i).2),.v (qA (gPt l i).3),.v (qE (↑(qF (gPt l i).4 0):Int)),.v (qE (↑(qF (gPt l i).4 1):Int)),.v (qE (↑(qF (gPt l i).4 2):Int)),.v (qE (↑(qF (gPt l i).4 3):Int))] 55,.cells [.v (qA w),.x 4 []] 50,.cells [.x 5 [],.x 6 [],.x 7 [],.x 8 []] 33,.cells [.v (qA c.1),.v (qA c.2),.v (qA c.3),.x 9 [],.x 10 [],.x 11 [],.x 12 []] 27,.ext false (.s false 7 l.length (cPt l)),.ext false (.s false 2 p.1.length (cRg p.1)),.ext false (.s false 2 p.2.length (cTa p.2)),.ext false (.s false 6 p.3.length (cLk p.3)),.ext false (.s false 1 p.4.length (cT p.4)),.ext false (.s false 7 c.4.length (cN c.4)),.ext false (.s false 1 c.5.length (cI c.5)),.ext false (.s false 2 c.6.length (cL c.6)),.ext false (.s false 2 c.7.length (cK c.7))]) else K [.at [0,1,1,1,1,1,0,0,1,0,0,1,0,1,1],.blk 2,.blk 1,.at [1,1,0,0,1,0,1,1],.rnd [0,0,1,0,1,1] M,.blk 0,.at [1,1,1]] (St.mk [(10,.v (qA 0)),(8,.p 0 0),(7,.v (qA (↑i:Int))),(5,.p 1 0),(4,.p 2 0),(3,.p 3 0)] [.cells [.v (qA (gPt l i).1),.v (qA (gPt l i).2),.v (qA (gPt l i).3),.v (qE (↑(qF (gPt l i).4 0):Int)),.v (qE (↑(qF (gPt l i).4 1):Int)),.v (qE (↑(qF (gPt l i).4 2):Int)),.v (qE (↑(qF (gPt l i).4 3):Int))] 55,.cells [.v (qA w),.x 4 []] 50,.cells [.x 5 [],.x 6 [],.x 7 [],.x 8 []] 33,.cells [.v (qA c.1),.v (qA c.2),.v (qA c.3),.x 9 [],.x 10 [],.x 11 [],.x 12 []] 27,.ext false (.s false 7 l.length (cPt l)),.ext false (.s false 2 p.1.length (cRg p.1)),.ext false (.s false 2 p.2.length (cTa p.2)),.ext false (.s false 6 p.3.length (cLk p.3)),.ext false (.s false 1 p.4.length (cT p.4)),.ext false (.s false 7 c.4.length (cN c.4)),.ext false (.s false 1 c.5.length (cI c.5)),.ext false (.s false 2 c.6.length (cL c.6)),.ext false (.s false 2 c.7.length (cK c.7))]) else bif decide ((gPt l i).2<(0:Int)) then R (.v (.bool false)) [] else bif decide (c.2≤(gPt l i).2) then R (.v (.bool false)) [] else bif decide ((gPt l i).3<(0:Int)) then R (.v (.bool false)) [] else bif decide (w≤(gPt l i).3) then R (.v (.bool false)) [] else bif(gPt l i).1==(2:Int) then lPn p.1.length p.2.length p.3.length p.4.length (cRg p.1) (cTa p.2) (cLk p.3) (cT p.4) fun(p_1:Pln)=>bif List.any p_1.2 (qCg (gPt l i).2) then R (.v (.bool false)) [] else K [.at [0,1,1,1,1,1,0,0,1,0,0,1,0,1,1],.blk 2,.blk 1,.at [1,1,0,0,1,0,1,1],.rnd [0,0,1,0,1,1] M,.blk 0,.at [1,1,1]] (St.mk [(10,.v (qA 0)),(8,.p 0 0),(7,.v (qA (↑i:Int))),(5,.p 1 0),(4,.p 2 0),(3,.p 3 0)] [.cells [.v (qA (gPt l i).1),.v (qA (gPt l i).2),.v (qA (gPt l i).3),.v (qE (↑(qF (gPt l i).4 0):Int)),.v (qE (↑(qF (gPt l i).4 1):Int)),.v (qE (↑(qF (gPt l i).4 2):Int)),.v (qE (↑(qF (gPt l i).4 3):Int))] 55,.cells [.v (qA w),.x 4 []] 50,.cells [.x 5 [],.x 6 [],.x 7 [],.x 8 []] 33,.cells [.v (qA c.1),.v (qA c.2),.v (qA c.3),.x 9 [],.x 10 [],.x 11 [],.x 12 []] 27,.ext false (.s false 7 l.length (cPt l)),.ext false (.s false 2 p.1.length (cRg p.1)),.ext false (.s false 2 p.2.length (cTa p.2)),.ext false (.s false 6 p.3.length (cLk p.3)),.ext false (.s false 1 p.4.length (cT p.4)),.ext false (.s false 7 c.4.length (cN c.4)),.ext false (.s false 1 c.5.length (cI c.5)),.ext false (.s false 2 c.6.length (cL c.6)),.ext false (.s false 2 c.7.length (cK c.7))]) else K [.at [0,1,1,1,1,1,0,0,1,0,0,1,0,1,1],.blk 2,.blk 1,.at [1,1,0,0,1,0,1,1],.rnd [0,0,1,0,1,1] M,.blk 0,.at [1,1,1]] (St.mk [(10,.v (qA 0)),(8,.p 0 0),(7,.v (qA (↑i:Int))),(5,.p 1 0),(4,.p 2 0),(3,.p 3 0)] [.cells [.v (qA (gPt l i).1),.v (qA (gPt l i).2),.v (qA (gPt l i).3),.v (qE (↑(qF (gPt l i).4 0):Int)),.v (qE (↑(qF (gPt l i).4 1):Int)),.v (qE (↑(qF (gPt l i).4 2):Int)),.v (qE (↑(qF (gPt l i).4 3):Int))] 55,.cells [.v (qA w),.x 4 []] 50,.cells [.x 5 [],.x 6 [],.x 7 [],.x 8 []] 33,.cells [.v (qA c.1),.v (qA c.2),.v (qA c.3),.x 9 [],.x 10 [],.x 11 [],.x 12 []] 27,.ext false (.s false 7 l.length (cPt l)),.ext false (.s false 2 p.1.length (cRg p.1)),.ext false (.s false 2 p.2.length (cTa p.2)),.ext false (.s false 6 p.3.length (cLk p.3)),.ext false (.s false 1 p.4.length (cT p.4)),.ext false (.s false 7 c.4.length (cN c.4)),.ext false (.s false 1 c.5.length (cI c.5)),.ext false (.s false 2 c.6.length (cL c.6)),.ext false (.s false 2 c.7.length (cK c.7))]) else bif !(gPt l i).1==(2:Int) then bif !(gPt l i).1==(3:Int) then R (.v (.bool false)) [] else bif decide ((gPt l i).2<(0:Int)) then R (.v (.bool false)) [] else bif decide (c.1≤(gPt l i).2) then R (.v (.bool false)) [] else bif decide ((gPt l i).3<(0:Int)) then R (.v (.bool false)) [] else bif decide (w≤(gPt l i).3) then R (.v (.bool false)) [] else bif(gPt l i).1==(2:Int) then lPn p.1.length p.2.length p.3.length p.4.length (cRg p.1) (cTa p.2) (cLk p.3) (cT p.4) fun(p_1:Pln)=>bif List.any p_1.2 (qCg (gPt l i).2) then R (.v (.bool false)) [] else K [.at [0,1,1,1,1,1,0,0,1,0,0,1,0,1,1],.blk 2,.blk 1,.at [1,1,0,0,1,0,1,1],.rnd [0,0,1,0,1,1] M,.blk 0,.at [1,1,1]] (St.mk [(10,.v (qA 0)),(8,.p 0 0),(7,.v (qA (↑i:Int))),(5,.p 1 0),(4,.p 2 0),(3,.p 3 0)] [.cells [.v (qA (gPt l i).1),.v (qA (gPt l i).2),.v (qA (gPt l i).3),.v (qE (↑(qF (gPt l i).4 0):Int)),.v (qE (↑(qF (gPt l i).4 1):Int)),.v (qE (↑(qF (gPt l i).4 2):Int)),.v (qE (↑(qF (gPt l i).4 3):Int))] 55,.cells [.v (qA w),.x 4 []] 50,.cells [.x 5 [],.x 6 [],.x 7 [],.x 8 []] 33,.cells [.v (qA c.1),.v (qA c.2),.v (qA c.3),.x 9 [],.x 10 [],.x 11 [],.x 12 []] 27,.ext false (.s false 7 l.length (cPt l)),.ext false (.s false 2 p.1.length (cRg p.1)),.ext false (.s false 2 p.2.length (cTa p.2)),.ext false (.s false 6 p.3.length (cLk p.3)),.ext false (.s false 1 p.4.length (cT p.4)),.ext false (.s false 7 c.4.length (cN c.4)),.ext false (.s false 1 c.5.length (cI c.5)),.ext false (.s false 2 c.6.length (cL c.6)),.ext false (.s false 2 c.7.length (cK c.7))]) else K [.at [0,1,1,1,1,1,0,0,1,0,0,1,0,1,1],.blk 2,.blk 1,.at [1,1,0,0,1,0,1,1],.rnd [0,0,1,0,1,1] M,.blk 0,.at [1,1,1]] (St.mk [(10,.v (qA 0)),(8,.p 0 0),(7,.v (qA (↑i:Int))),(5,.p 1 0),(4,.p 2 0),(3,.p 3 0)] [.cells [.v (qA (gPt l i).1),.v (qA (gPt l i).2),.v (qA (gPt l i).3),.v (qE (↑(qF (gPt l i).4 0):Int)),.v (qE (↑(qF (gPt l i).4 1):Int)),.v (qE (↑(qF (gPt l i).4 2):Int)),.v (qE (↑(qF (gPt l i).4 3):Int))] 55,.cells [.v (qA w),.x 4 []] 50,.cells [.x 5 [],.x 6 [],.x 7 [],.x 8 []] 33,.cells [.v (qA c.1),.v (qA c.2),.v (qA c.3),.x 9 [],.x 10 [],.x 11 [],.x 12 []] 27,.ext false (.s false 7 l.length (cPt l)),.ext false (.s false 2 p.1.length (cRg p.1)),.ext false (.s false 2 p.2.length (cTa p.2)),.ext false (.s false 6 p.3.length (cLk p.3)),.ext false (.s false 1 p.4.length (cT p.4)),.ext false (.s false 7 c.4.length (cN c.4)),.ext false (.s false 1 c.5.length (cI c.5)),.ext false (.s false 2 c.6.length (cL c.6)),.ext false (.s false 2 c.7.length (cK c.7))]) else bif decide ((gPt l i).2<(0:Int)) then R (.v (.bool false)) [] else bif decide (c.1≤(gPt l i).2) then R (.v (.bool false)) [] else bif decide ((gPt l i).3<(0:Int)) then R (.v (.bool false)) [] else bif decide (w≤(gPt l i).3) then R (.v (.bool false)) [] else bif(gPt l i).1==(2:Int) then lPn p.1.length p.2.length p.3.length p.4.length (cRg p.1) (cTa p.2) (cLk p.3) (cT p.4) fun(p_1:Pln)=>bif List.any p_1.2 (qCg (gPt l i).2) then R (.v (.bool false)) [] else K [.at [0,1,1,1,1,1,0,0,1,0,0,1,0,1,1],.blk 2,.blk 1,.at [1,1,0,0,1,0,1,1],.rnd [0,0,1,0,1,1] M,.blk 0,.at [1,1,1]] (St.mk [(10,.v (qA 0)),(8,.p 0 0),(7,.v (qA (↑i:Int))),(5,.p 1 0),(4,.p 2 0),(3,.p 3 0)] [.cells [.v (qA (gPt l i).1),.v (qA (gPt l i).2),.v (qA (gPt l i).3),.v (qE (↑(qF (gPt l i).4 0):Int)),.v (qE (↑(qF (gPt l i).4 1):Int)),.v (qE (↑(qF (gPt l i).4 2):Int)),.v (qE (↑(qF (gPt l i).4 3):Int))] 55,.cells [.v (qA w),.x 4 []] 50,.cells [.x 5 [],.x 6 [],.x 7 [],.x 8 []] 33,.cells [.v (qA c.1),.v (qA c.2),.v (qA c.3),.x 9 [],.x 10 [],.x 11 [],.x 12 []] 27,.ext false (.s false 7 l.length (cPt l)),.ext false (.s false 2 p.1.length (cRg p.1)),.ext false (.s false 2 p.2.length (cTa p.2)),.ext false (.s false 6 p.3.length (cLk p.3)),.ext false (.s false 1 p.4.length (cT p.4)),.ext false (.s false 7 c.4.length (cN c.4)),.ext false (.s false 1 c.5.length (cI c.5)),.ext false (.s false 2 c.6.length (cL c.6)),.ext false (.s false 2 c.7.length (cK c.7))]) else K [.at [0,1,1,1,1,1,0,0,1,0,0,1,0,1,1],.blk 2,.blk 1,.at [1,1,0,0,1,0,1,1],.rnd [0,0,1,0,1,1] M,.blk 0,.at [1,1,1]] (St.mk [(10,.v (qA 0)),(8,.p 0 0),(7,.v (qA (↑i:Int))),(5,.p 1 0),(4,.p 2 0),(3,.p 3 0)] [.cells [.v (qA (gPt l i).1),.v (qA (gPt l i).2),.v (qA (gPt l i).3),.v (qE (↑(qF (gPt l i).4 0):Int)),.v (qE (↑(qF (gPt l i).4 1):Int)),.v (qE (↑(qF (gPt l i).4 2):Int)),.v (qE (↑(qF (gPt l i).4 3):Int))] 55,.cells [.v (qA w),.x 4 []] 50,.cells [.x 5 [],.x 6 [],.x 7 [],.x 8 []] 33,.cells [.v (qA c.1),.v (qA c.2),.v (qA c.3),.x 9 [],.x 10 [],.x 11 [],.x 12 []] 27,.ext false (.s false 7 l.length (cPt l)),.ext false (.s false 2 p.1.length (cRg p.1)),.ext false (.s false 2 p.2.length (cTa p.2)),.ext false (.s false 6 p.3.length (cLk p.3)),.ext false (.s false 1 p.4.length (cT p.4)),.ext false (.s false 7 c.4.length (cN c.4)),.ext false (.s false 1 c.5.length (cI c.5)),.ext false (.s false 2 c.6.length (cL c.6)),.ext false (.s false 2 c.7.length (cK c.7))]) else R (.v (.bool true)) []):=by kernel_rfl
theorem zSd(c:Cir)(p:Pln)(w:Int)(l:List Pt)(i j M M2:Nat)(K:List It→St→Prop)(R:SV→List HO→Prop):W (xwp Tryz.prog X zGh [] 60 (qO Tryz.f41 [] [⟨[0,1,0,1,1],[7,5,4,3],[]⟩,⟨[0,1,1,1,1,1,0,0,1,0,0,1,0,1,1],[10,8,7,5,4,3],[]⟩]) [] (.at [0,0,1,1,1,1,1,0,0,1,0,0,1,0,1,1]::.rnd [0,0,1,1,1,1,1,0,0,1,0,0,1,0,1,1] M::[.blk 2,.blk 1,.at [1,1,0,0,1,0,1,1],.rnd [0,0,1,0,1,1] M2,.blk 0,.at [1,1,1]]) (St.mk [(10,.v (qA (j:Int))),(8,.p 0 0),(7,.v (qA (↑i:Int))),(5,.p 1 0),(4,.p 2 0),(3,.p 3 0)] [.cells [.v (qA (gPt l i).1),.v (qA (gPt l i).2),.v (qA (gPt l i).3),.v (qE (↑(qF (gPt l i).4 0):Int)),.v (qE (↑(qF (gPt l i).4 1):Int)),.v (qE (↑(qF (gPt l i).4 2):Int)),.v (qE (↑(qF (gPt l i).4 3):Int))] 55,.cells [.v (qA w),.x 4 []] 50,.cells [.x 5 [],.x 6 [],.x 7 [],.x 8 []] 33,.cells [.v (qA c.1),.v (qA c.2),.v (qA c.3),.x 9 [],.x 10 [],.x 11 [],.x 12 []] 27,.ext false (.s false 7 l.length (cPt l)),.ext false (.s false 2 p.1.length (cRg p.1)),.ext false (.s false 2 p.2.length (cTa p.2)),.ext false (.s false 6 p.3.length (cLk p.3)),.ext false (.s false 1 p.4.length (cT p.4)),.ext false (.s false 7 c.4.length (cN c.4)),.ext false (.s false 1 c.5.length (cI c.5)),.ext false (.s false 2 c.6.length (cL c.6)),.ext false (.s false 2 c.7.length (cK c.7))]) K R)=W (bif decide ((↑j:Int)<(↑i:Int)) then(∀ M:Mem,(0:Int)≤(↑j:Int)∧(↑j:Int)<(↑l.length:Int))∧(∀ M:Mem,j<List.length l)∧(∀ M:Mem,j<List.length l)∧bif(gPt l j).1==(gPt l i).1 then(∀ M:Mem,(0:Int)≤(↑j:Int)∧(↑j:Int)<(↑l.length:Int))∧(∀ M:Mem,j<List.length l)∧(∀ M:Mem,j<List.length l)∧bif(gPt l j).2==(gPt l i).2 then(∀ M:Mem,(0:Int)≤(↑j:Int)∧(↑j:Int)<(↑l.length:Int))∧(∀ M:Mem,j<List.length l)∧(∀ M:Mem,j<List.length l)∧bif(gPt l j).3==(gPt l i).3 then R (.v (.bool false)) [] else K [.rnd [0,0,1,1,1,1,1,0,0,1,0,0,1,0,1,1] M,.blk 2,.blk 1,.at [1,1,0,0,1,0,1,1],.rnd [0,0,1,0,1,1] M2,.blk 0,.at [1,1,1]] (St.mk [(10,.v (qA (IntKind.wrap .i64 ((↑j:Int)+(1:Int))))),(8,.p 0 0),(7,.v (qA (↑i:Int))),(5,.p 1 0),(4,.p 2 0),(3,.p 3 0)] [.cells [.v (qA (gPt l i).1),.v (qA (gPt l i).2),.v (qA (gPt l i).3),.v (qE (↑(qF (gPt l i).4 0):Int)),.v (qE (↑(qF (gPt l i).4 1):Int)),.v (qE (↑(qF (gPt l i).4 2):Int)),.v (qE (↑(qF (gPt l i).4 3):Int))] 55,.cells [.v (qA w),.x 4 []] 50,.cells [.x 5 [],.x 6 [],.x 7 [],.x 8 []] 33,.cells [.v (qA c.1),.v (qA c.2),.v (qA c.3),.x 9 [],.x 10 [],.x 11 [],.x 12 []] 27,.ext false (.s false 7 l.length (cPt l)),.ext false (.s false 2 p.1.length (cRg p.1)),.ext false (.s false 2 p.2.length (cTa p.2)),.ext false (.s false 6 p.3.length (cLk p.3)),.ext false (.s false 1 p.4.length (cT p.4)),.ext false (.s false 7 c.4.length (cN c.4)),.ext false (.s false 1 c.5.length (cI c.5)),.ext false (.s false 2 c.6.length (cL c.6)),.ext false (.s false 2 c.7.length (cK c.7))]) else K [.rnd [0,0,1,1,1,1,1,0,0,1,0,0,1,0,1,1] M,.blk 2,.blk 1,.at [1,1,0,0,1,0,1,1],.rnd [0,0,1,0,1,1] M2,.blk 0,.at [1,1,1]] (St.mk [(10,.v (qA (IntKind.wrap .i64 ((↑j:Int)+(1:Int))))),(8,.p 0 0),(7,.v (qA (↑i:Int))),(5,.p 1 0),(4,.p 2 0),(3,.p 3 0)] [.cells [.v (qA (gPt l i).1),.v (qA (gPt l i).2),.v (qA (gPt l i).3),.v (qE (↑(qF (gPt l i).4 0):Int)),.v (qE (↑(qF (gPt l i).4 1):Int)),.v (qE (↑(qF (gPt l i).4 2):Int)),.v (qE (↑(qF (gPt l i).4 3):Int))] 55,.cells [.v (qA w),.x 4 []] 50,.cells [.x 5 [],.x 6 [],.x 7 [],.x 8 []] 33,.cells [.v (qA c.1),.v (qA c.2),.v (qA c.3),.x 9 [],.x 10 [],.x 11 [],.x 12 []] 27,.ext false (.s false 7 l.length (cPt l)),.ext false (.s false 2 p.1.length (cRg p.1)),.ext false (.s false 2 p.2.length (cTa p.2)),.ext false (.s false 6 p.3.length (cLk p.3)),.ext false (.s false 1 p.4.length (cT p.4)),.ext false (.s false 7 c.4.length (cN c.4)),.ext false (.s false 1 c.5.length (cI c.5)),.ext false (.s false 2 c.6.length (cL c.6)),.ext false (.s false 2 c.7.length (cK c.7))]) else K [.rnd [0,0,1,1,1,1,1,0,0,1,0,0,1,0,1,1] M,.blk 2,.blk 1,.at [1,1,0,0,1,0,1,1],.rnd [0,0,1,0,1,1] M2,.blk 0,.at [1,1,1]] (St.mk [(10,.v (qA (IntKind.wrap .i64 ((↑j:Int)+(1:Int))))),(8,.p 0 0),(7,.v (qA (↑i:Int))),(5,.p 1 0),(4,.p 2 0),(3,.p 3 0)] [.cells [.v (qA (gPt l i).1),.v (qA (gPt l i).2),.v (qA (gPt l i).3),.v (qE (↑(qF (gPt l i).4 0):Int)),.v (qE (↑(qF (gPt l i).4 1):Int)),.v (qE (↑(qF (gPt l i).4 2):Int)),.v (qE (↑(qF (gPt l i).4 3):Int))] 55,.cells [.v (qA w),.x 4 []] 50,.cells [.x 5 [],.x 6 [],.x 7 [],.x 8 []] 33,.cells [.v (qA c.1),.v (qA c.2),.v (qA c.3),.x 9 [],.x 10 [],.x 11 [],.x 12 []] 27,.ext false (.s false 7 l.length (cPt l)),.ext false (.s false 2 p.1.length (cRg p.1)),.ext false (.s false 2 p.2.length (cTa p.2)),.ext false (.s false 6 p.3.length (cLk p.3)),.ext false (.s false 1 p.4.length (cT p.4)),.ext false (.s false 7 c.4.length (cN c.4)),.ext false (.s false 1 c.5.length (cI c.5)),.ext false (.s false 2 c.6.length (cL c.6)),.ext false (.s false 2 c.7.length (cK c.7))]) else K [.rnd [0,0,1,0,1,1] M2,.blk 0,.at [1,1,1]] (St.mk [(7,.v (qA (IntKind.wrap .i64 ((↑i:Int)+(1:Int))))),(5,.p 0 0),(4,.p 1 0),(3,.p 2 0)] [.cells [.v (qA w),.x 3 []] 50,.cells [.x 4 [],.x 5 [],.x 6 [],.x 7 []] 33,.cells [.v (qA c.1),.v (qA c.2),.v (qA c.3),.x 8 [],.x 9 [],.x 10 [],.x 11 []] 27,.ext false (.s false 7 l.length (cPt l)),.ext false (.s false 2 p.1.length (cRg p.1)),.ext false (.s false 2 p.2.length (cTa p.2)),.ext false (.s false 6 p.3.length (cLk p.3)),.ext false (.s false 1 p.4.length (cT p.4)),.ext false (.s false 7 c.4.length (cN c.4)),.ext false (.s false 1 c.5.length (cI c.5)),.ext false (.s false 2 c.6.length (cL c.6)),.ext false (.s false 2 c.7.length (cK c.7))])):=by kernel_rfl
theorem zDf{c:Cir}{p:Pln}{w kd co fr:Int}:qGm c p w kd co fr=true↔((kd=2∧co<c.fx∧p.tb.any (qCg co)=false)∨(kd=3∧co<c.ad))∧0≤co∧0≤fr∧fr<w:=by
 rw[qGm,zZ,zZ,zZ,zZ,zZ]
 by_cases k2:kd=2
 ·subst k2
  have e:zG [[(2:Int)],[(3:Int)]] (qU [[(2:Int)]] (qU [] [] [(2:Int)] c.1) [(3:Int)] c.2) [2]=c.fx:=by simp [zG,qU]
  have e2:(!((2:Int)==(2:Int)))=false:=rfl
  have e3:(!jY [[(2:Int)],[(3:Int)]] [2])=false:=by simp [jY]
  rw[e,e2,cond_false,e3]
  simp only[decide_eq_false_iff_not,Bool.not_eq_true']
  constructor
  ·rintro⟨_,h1,h2,h3,h4,h5⟩; exact⟨.inl ⟨trivial,by omega,h5⟩,by omega,by omega,by omega⟩
  ·rintro⟨h | h,h1,h2,h3⟩
   ·exact⟨trivial,by omega,by omega,by omega,by omega,h.2.2⟩
   ·omega
 ·by_cases k3:kd=3
  ·subst k3
   have e:zG [[(2:Int)],[(3:Int)]] (qU [[(2:Int)]] (qU [] [] [(2:Int)] c.1) [(3:Int)] c.2) [3]=c.ad:=by simp [zG,qU]
   have e2:(!((3:Int)==(2:Int)))=true:=rfl
   have e3:(!jY [[(2:Int)],[(3:Int)]] [3])=false:=by simp [jY]
   rw[e,e2,cond_true,e3]
   simp only[decide_eq_false_iff_not]
   constructor
   ·rintro⟨_,h1,h2,h3,h4,_⟩; exact⟨.inr ⟨trivial,by omega⟩,by omega,by omega,by omega⟩
   ·rintro⟨h | h,h1,h2,h3⟩
    ·omega
    ·exact⟨trivial,by omega,by omega,by omega,by omega,trivial⟩
  ·have e3:(!jY [[(2:Int)],[(3:Int)]] [kd])=true:=by simp [jY,k2,k3]
   rw[e3]
   constructor
   ·rintro⟨h,_⟩; cases h
   ·rintro⟨h | h,_⟩
    ·exact absurd h.1 k2
    ·exact absurd h.1 k3
theorem qTr{l:List Pt}{k:Nat}(h:k<l.length):l.take (k+1)=l.take k++[gPt l k]:=by
 rw[List.take_add_one,List.getElem?_eq_getElem h,gPt,List.getD_eq_getElem?_getD,List.getElem?_eq_getElem h]; rfl
theorem zOv{R:Pt→Pt→Prop}{l:List Pt}(h:l.Pairwise R){i j:Nat}(hj:j<i)(hi:i<l.length):R (gPt l j) (gPt l i):=by
 have:=List.pairwise_iff_getElem.1 h j i (by omega) hi hj
 rw[gPt,gPt,List.getD_eq_getElem?_getD,List.getD_eq_getElem?_getD,List.getElem?_eq_getElem hi,List.getElem?_eq_getElem (by omega:j<l.length)]
 exact this
theorem qQg(c:Cir)(p:Pln)(w:Int)(l:List Pt)(hl:l.length≤64)(i M2:Nat)(hi:i<l.length)(Q:SV→List HO→Prop)(hF:(∃ j,j<i∧qSl (gPt l j) (gPt l i))→Q (.v (.bool false)) [])(hN:(∀ j,j<i→¬ qSl (gPt l j) (gPt l i))→FOk Tryz.prog Tryz.f41 Q (.rnd [0,0,1,0,1,1] M2::[.blk 0,.at [1,1,1]]) (St.mk [(7,SV.v (qA ((i+1:Nat):Int))),(5,SV.p 0 0),(4,SV.p 1 0),(3,SV.p 2 0)] [HO.cells [SV.v (qA w),SV.x 3 []] 50,HO.cells [SV.x 4 [],SV.x 5 [],SV.x 6 [],SV.x 7 []] 33,HO.cells [SV.v (qA c.1),SV.v (qA c.2),SV.v (qA c.3),SV.x 8 [],SV.x 9 [],SV.x 10 [],SV.x 11 []] 27,HO.ext false (qB.s false 7 l.length (cPt l)),HO.ext false (qB.s false 2 (List.length p.1) (cRg p.1)),HO.ext false (qB.s false 2 (List.length p.2) (cTa p.2)),HO.ext false (qB.s false 6 (List.length p.3) (cLk p.3)),HO.ext false (qB.s false 1 (List.length p.4) (cT p.4)),HO.ext false (qB.s false 7 (List.length c.4) (cN c.4)),HO.ext false (qB.s false 1 (List.length c.5) (cI c.5)),HO.ext false (qB.s false 2 (List.length c.6) (cL c.6)),HO.ext false (qB.s false 2 (List.length c.7) (cK c.7))])):∀(d j:Nat),j+d=i→(∀ j',j'<j→¬ qSl (gPt l j') (gPt l i)) →
  FOk Tryz.prog Tryz.f41 Q (.rnd [0,0,1,1,1,1,1,0,0,1,0,0,1,0,1,1] (d+1)::[.blk 2,.blk 1,.at [1,1,0,0,1,0,1,1],.rnd [0,0,1,0,1,1] M2,.blk 0,.at [1,1,1]]) (St.mk [(10,SV.v (qA (j:Int))),(8,SV.p 0 0),(7,SV.v (qA (↑i:Int))),(5,SV.p 1 0),(4,SV.p 2 0),(3,SV.p 3 0)] [HO.cells [SV.v (qA (gPt l i).1),SV.v (qA (gPt l i).2),SV.v (qA (gPt l i).3),SV.v (qE (↑(qF (gPt l i).4 0):Int)),SV.v (qE (↑(qF (gPt l i).4 1):Int)),SV.v (qE (↑(qF (gPt l i).4 2):Int)),SV.v (qE (↑(qF (gPt l i).4 3):Int))] 55,HO.cells [SV.v (qA w),SV.x 4 []] 50,HO.cells [SV.x 5 [],SV.x 6 [],SV.x 7 [],SV.x 8 []] 33,HO.cells [SV.v (qA c.1),SV.v (qA c.2),SV.v (qA c.3),SV.x 9 [],SV.x 10 [],SV.x 11 [],SV.x 12 []] 27,HO.ext false (qB.s false 7 l.length (cPt l)),HO.ext false (qB.s false 2 (List.length p.1) (cRg p.1)),HO.ext false (qB.s false 2 (List.length p.2) (cTa p.2)),HO.ext false (qB.s false 6 (List.length p.3) (cLk p.3)),HO.ext false (qB.s false 1 (List.length p.4) (cT p.4)),HO.ext false (qB.s false 7 (List.length c.4) (cN c.4)),HO.ext false (qB.s false 1 (List.length c.5) (cI c.5)),HO.ext false (qB.s false 2 (List.length c.6) (cL c.6)),HO.ext false (qB.s false 2 (List.length c.7) (cK c.7))])
 | 0,j,hd,hj=>by
  refine FOk.rnd (qC hm 60 ((zSd c p w l i j 0 M2 _ _).mpr ⟨?_⟩))
  rw[qD,if_neg (by omega),qK i (by omega)]
  exact hN fun j' h=>hj j' (by omega)
 | d+1,j,hd,hj=>by
  have ih:=qQg c p w l hl i M2 hi Q hF hN d (j+1) (by omega)
  have ext:¬ qSl (gPt l j) (gPt l i)→∀ j',j'<j+1→¬ qSl (gPt l j') (gPt l i):=fun hn j' h=>by
   rcases Nat.lt_or_ge j' j with h2 | h2
   ·exact hj j' h2
   ·obtain rfl:j'=j:=by omega
    exact hn
  refine FOk.rnd (qC hm 60 ((zSd c p w l i j (d+1) M2 _ _).mpr ⟨?_⟩))
  rw[qD,if_pos (by omega),qK j (by omega)]
  repeat' (refine And.intro (fun _=>by omega) ?_)
  rw[zC]
  refine qG (fun a=>?_) (fun a=>ih (ext fun h=>a h.1))
  repeat' (refine And.intro (fun _=>by omega) ?_)
  rw[zC]
  refine qG (fun b=>?_) (fun b=>ih (ext fun h=>b h.2.1))
  repeat' (refine And.intro (fun _=>by omega) ?_)
  rw[zC]
  exact qG (fun e=>hF ⟨j,by omega,a,b,e⟩) (fun e=>ih (ext fun h=>e h.2.2))
theorem qOe(c:Cir)(p:Pln)(w:Int)(l:List Pt)(hp:p.ok)(hw:1≤w)(hl:l.length≤64)(Q:SV→List HO→Prop)(hq:Q (.v (.bool (qAm c p (w,l)))) []):∀(d i:Nat),i+d=l.length→(∀ x∈l.take i,qGm c p w x.1 x.2 x.3=true)→(l.take i).Pairwise (fun a b=>¬ qSl a b) →
  FOk Tryz.prog Tryz.f41 Q (.rnd [0,0,1,0,1,1] (d+1)::[.blk 0,.at [1,1,1]]) (St.mk [(7,SV.v (qA (i:Int))),(5,SV.p 0 0),(4,SV.p 1 0),(3,SV.p 2 0)] [HO.cells [SV.v (qA w),SV.x 3 []] 50,HO.cells [SV.x 4 [],SV.x 5 [],SV.x 6 [],SV.x 7 []] 33,HO.cells [SV.v (qA c.1),SV.v (qA c.2),SV.v (qA c.3),SV.x 8 [],SV.x 9 [],SV.x 10 [],SV.x 11 []] 27,HO.ext false (qB.s false 7 l.length (cPt l)),HO.ext false (qB.s false 2 (List.length p.1) (cRg p.1)),HO.ext false (qB.s false 2 (List.length p.2) (cTa p.2)),HO.ext false (qB.s false 6 (List.length p.3) (cLk p.3)),HO.ext false (qB.s false 1 (List.length p.4) (cT p.4)),HO.ext false (qB.s false 7 (List.length c.4) (cN c.4)),HO.ext false (qB.s false 1 (List.length c.5) (cI c.5)),HO.ext false (qB.s false 2 (List.length c.6) (cL c.6)),HO.ext false (qB.s false 2 (List.length c.7) (cK c.7))])
 | 0,i,hd,h1,h2=>by
  refine FOk.rnd (qC hm 60 ((zTh c p w l i 0 _ _).mpr ⟨?_⟩))
  rw[qD,if_neg (by omega)]
  rw[show i=l.length by omega,List.take_length] at h1 h2
  rw[qDi.2 ⟨hw,hl,h1,h2⟩] at hq
  exact hq
 | d+1,i,hd,h1,h2=>by
  have hi:i<l.length:=by omega
  have hF:¬ qGm c p w (gPt l i).1 (gPt l i).2 (gPt l i).3=true→Q (.v (.bool false)) []:=fun hn=>by
   cases hb:qAm c p (w,l) with
   | false=>rw[hb] at hq; exact hq
   | true=>exact absurd ((qDi.1 hb).2.2.1 _ (qJv hi)) hn
  have hF2:(∃ j,j<i∧qSl (gPt l j) (gPt l i))→Q (.v (.bool false)) []:=fun⟨j,hj,hs⟩=>by
   cases hb:qAm c p (w,l) with
   | false=>rw[hb] at hq; exact hq
   | true=>exact absurd hs (zOv (qDi.1 hb).2.2.2 hj hi)
  have hN:qGm c p w (gPt l i).1 (gPt l i).2 (gPt l i).3=true→FOk Tryz.prog Tryz.f41 Q (.at [0,1,1,1,1,1,0,0,1,0,0,1,0,1,1]::[.blk 2,.blk 1,.at [1,1,0,0,1,0,1,1],.rnd [0,0,1,0,1,1] (d+1),.blk 0,.at [1,1,1]]) (St.mk [(10,SV.v (qA (0:Int))),(8,SV.p 0 0),(7,SV.v (qA (↑i:Int))),(5,SV.p 1 0),(4,SV.p 2 0),(3,SV.p 3 0)] [HO.cells [SV.v (qA (gPt l i).1),SV.v (qA (gPt l i).2),SV.v (qA (gPt l i).3),SV.v (qE (↑(qF (gPt l i).4 0):Int)),SV.v (qE (↑(qF (gPt l i).4 1):Int)),SV.v (qE (↑(qF (gPt l i).4 2):Int)),SV.v (qE (↑(qF (gPt l i).4 3):Int))] 55,HO.cells [SV.v (qA w),SV.x 4 []] 50,HO.cells [SV.x 5 [],SV.x 6 [],SV.x 7 [],SV.x 8 []] 33,HO.cells [SV.v (qA c.1),SV.v (qA c.2),SV.v (qA c.3),SV.x 9 [],SV.x 10 [],SV.x 11 [],SV.x 12 []] 27,HO.ext false (qB.s false 7 l.length (cPt l)),HO.ext false (qB.s false 2 (List.length p.1) (cRg p.1)),HO.ext false (qB.s false 2 (List.length p.2) (cTa p.2)),HO.ext false (qB.s false 6 (List.length p.3) (cLk p.3)),HO.ext false (qB.s false 1 (List.length p.4) (cT p.4)),HO.ext false (qB.s false 7 (List.length c.4) (cN c.4)),HO.ext false (qB.s false 1 (List.length c.5) (cI c.5)),HO.ext false (qB.s false 2 (List.length c.6) (cL c.6)),HO.ext false (qB.s false 2 (List.length c.7) (cK c.7))]):=fun hpb=>by
   refine FOk.loop (i+1) (by kernel_rfl) (qQg c p w l hl i (d+1) hi Q hF2 (fun hn=>?_) i 0 (by omega) (fun j' h=>absurd h (Nat.not_lt_zero j')))
   refine qOe c p w l hp hw hl Q hq d (i+1) (by omega) (fun x hx=>?_) ?_
   ·rw[qTr hi,List.mem_append,List.mem_singleton] at hx
    rcases hx with hx | hx
    ·exact h1 x hx
    ·rw[hx]; exact hpb
   ·rw[qTr hi,List.pairwise_append]
    refine⟨h2,List.pairwise_singleton _ _,fun a ha b hb=>?_⟩
    rw[List.mem_singleton] at hb
    rw[hb]
    obtain⟨j,hj,rfl⟩:=List.mem_iff_getElem.1 ha
    rw[List.length_take] at hj
    have:=hn j (by omega)
    rw[gPt,List.getD_eq_getElem?_getD,List.getElem?_eq_getElem (by omega:j<l.length)] at this
    rw[List.getElem_take]
    exact this
  rw[zDf] at hF hN
  refine FOk.rnd (qC hm 60 ((zTh c p w l i (d+1) _ _).mpr ⟨?_⟩))
  rw[qD,if_pos (by omega)]
  repeat' (refine And.intro (fun _=>by omega) ?_)
  by_cases k2:(gPt l i).1=2
  ·have b2:((gPt l i).1==(2:Int))=true:=by rw[k2]; rfl
   have b3:((gPt l i).1==(3:Int))=false:=by rw[k2]; rfl
   simp only[b2,b3,Bool.not_true,Bool.not_false,cond_true,cond_false]
   refine qJ (fun h=>hF fun hs=>by have:=of_decide_eq_true h; omega) (fun g1=>?_)
   refine qJ (fun h=>hF fun hs=>by have:=of_decide_eq_true h; omega) (fun g2=>?_)
   refine qJ (fun h=>hF fun hs=>by have:=of_decide_eq_true h; omega) (fun g3=>?_)
   refine qJ (fun h=>hF fun hs=>by have:=of_decide_eq_true h; omega) (fun g4=>?_)
   refine qYe p hp ?_
   have g1:=of_decide_eq_false g1
   have g2:=of_decide_eq_false g2
   have g3:=of_decide_eq_false g3
   have g4:=of_decide_eq_false g4
   refine qJ (fun h=>hF fun hs=>?_) (fun h=>hN ⟨.inl ⟨k2,by omega,h⟩,by omega,by omega,by omega⟩)
   rcases hs.1 with h5 | h5
   ·rw[h5.2.2] at h; cases h
   ·omega
  ·have b2:((gPt l i).1==(2:Int))=false:=by simpa using k2
   by_cases k3:(gPt l i).1=3
   ·have b3:((gPt l i).1==(3:Int))=true:=by rw[k3]; rfl
    simp only[b2,b3,Bool.not_true,Bool.not_false,cond_true,cond_false]
    refine qJ (fun h=>hF fun hs=>by have:=of_decide_eq_true h; omega) (fun g1=>?_)
    refine qJ (fun h=>hF fun hs=>by have:=of_decide_eq_true h; omega) (fun g2=>?_)
    refine qJ (fun h=>hF fun hs=>by have:=of_decide_eq_true h; omega) (fun g3=>?_)
    refine qJ (fun h=>hF fun hs=>by have:=of_decide_eq_true h; omega) (fun g4=>?_)
    have g1:=of_decide_eq_false g1
    have g2:=of_decide_eq_false g2
    have g3:=of_decide_eq_false g3
    have g4:=of_decide_eq_false g4
    exact hN ⟨.inr ⟨k3,by omega⟩,by omega,by omega,by omega⟩
   ·have b3:((gPt l i).1==(3:Int))=false:=by simpa using k3
    simp only[b2,b3,Bool.not_true,Bool.not_false,cond_true,cond_false]
    exact hF fun hs=>by omega
theorem zYe:Tryz.f41.body.isSome=true:=by kernel_rfl
theorem zVj(c:Cir)(w:Int):Nat.ble ([.agg [.v (.int .i64 c.fx),.v (.int .i64 c.ad),.v (.int .i64 c.ins),.x 0 [],.x 1 [],.x 2 [],.x 3 []],.agg [.x 4 [],.x 5 [],.x 6 [],.x 7 []],.agg [.v (.int .i64 w),.x 8 []]]:List SV).length Tryz.f41.ntmps=true:=by kernel_rfl
theorem zJv(c:Cir)(p:Pln)(w:Int)(l:List Pt)(hp:p.ok)(Q:SV→List HO→Prop)(hq:Q (.v (.bool (qAm c p (w,l)))) []):qI Tryz.prog 41 [.agg [.v (.int .i64 c.fx),.v (.int .i64 c.ad),.v (.int .i64 c.ins),.x 0 [],.x 1 [],.x 2 [],.x 3 []],.agg [.x 4 [],.x 5 [],.x 6 [],.x 7 []],.agg [.v (.int .i64 w),.x 8 []]] [.ext false (.s false 7 c.4.length (cN c.4)),.ext false (.s false 1 c.5.length (cI c.5)),.ext false (.s false 2 c.6.length (cL c.6)),.ext false (.s false 2 c.7.length (cK c.7)),.ext false (.s false 2 p.1.length (cRg p.1)),.ext false (.s false 2 p.2.length (cTa p.2)),.ext false (.s false 6 p.3.length (cLk p.3)),.ext false (.s false 1 p.4.length (cT p.4)),.ext false (.s false 7 l.length (cPt l))] Q:=by
 refine qL Tryz.func41 zYe (zVj c w) ?_
 refine qC hm 60 ((zVu c p w l _ _).mpr ⟨?_⟩)
 have hF:¬ (1≤w∧l.length≤64)→Q (.v (.bool false)) []:=fun hn=>by
  cases hb:qAm c p (w,l) with
  | false=>rw[hb] at hq; exact hq
  | true=>exact absurd ⟨(qDi.1 hb).1,(qDi.1 hb).2.1⟩ hn
 refine qJ (fun h=>hF fun hs=>by have:=of_decide_eq_true h; omega) (fun g1=>?_)
 refine qJ (fun h=>hF fun hs=>by have:=of_decide_eq_true h; omega) (fun g2=>?_)
 have g1:=of_decide_eq_false g1
 have g2:=of_decide_eq_false g2
 exact FOk.loop (l.length+1) (by kernel_rfl) (qOe c p w l hp (by omega) (by omega) Q hq l.length 0 (by omega) (fun x hx=>by rw[List.take_zero] at hx; cases hx) (by rw[List.take_zero]; exact List.Pairwise.nil))
noncomputable def zOp:List SV→List HO→Option ((SV→List HO→Prop)→Prop)
 | [.agg [.v (.int .i64 fx),.v (.int .i64 ad),.v (.int .i64 ins),.x 0 [],.x 1 [],.x 2 [],.x 3 []],.agg [.x 4 [],.x 5 [],.x 6 [],.x 7 []],.agg [.v (.int .i64 w),.x 8 []]],[.ext false (.s false 7 n0 c0),.ext false (.s false 1 n1 c1),.ext false (.s false 2 n2 c2),.ext false (.s false 2 n3 c3),.ext false (.s false 2 m0 d0),.ext false (.s false 2 m1 d1),.ext false (.s false 6 m2 d2),.ext false (.s false 1 m3 d3),.ext false (.s false 7 l0 e0)] =>
  some fun Q=>lSh fx ad ins n0 n1 n2 n3 m0 m1 m2 m3 c0 c1 c2 c3 d0 d1 d2 d3 fun c p=>lPp l0 e0 fun l=>Q (.v (.bool (qAm c p (w,l)))) []
 | _,_=>none
theorem zId(args:List SV)(h:List HO)(tr:(SV→List HO→Prop)→Prop)(Q:SV→List HO→Prop)(hc:zOp args h=some tr)(ht:tr Q):qI Tryz.prog 41 args h Q:=by
 unfold zOp at hc
 split at hc
 ·simp only[sI] at hc
  subst hc
  obtain⟨c,rfl,rfl,rfl,⟨rfl,e0⟩,⟨rfl,e1⟩,⟨rfl,e2⟩,⟨rfl,e3⟩,hk,ht2⟩:=ht.h.h
  obtain⟨p,⟨rfl,e4⟩,⟨rfl,e5⟩,⟨rfl,e6⟩,⟨rfl,e7⟩,hp,ht3⟩:=ht2.h
  obtain⟨l,rfl,e8,hb,hq⟩:=ht3.h
  exact qI.ac (zJv c p _ l hp Q hq) ⟨⟨rfl,rfl,rfl,rfl,e0⟩,⟨rfl,rfl,rfl,rfl,e1⟩,⟨rfl,rfl,rfl,rfl,e2⟩,⟨rfl,rfl,rfl,rfl,e3⟩,⟨rfl,rfl,rfl,rfl,e4⟩,⟨rfl,rfl,rfl,rfl,e5⟩,⟨rfl,rfl,rfl,rfl,e6⟩,⟨rfl,rfl,rfl,rfl,e7⟩,⟨rfl,rfl,rfl,rfl,e8⟩,trivial⟩
 ·cases hc
noncomputable def qWt:Con Tryz.prog:=zGh.add 41 zOp zId
end Go.Proofs.YtlmjdcbhpffanaaGreat
/- The document: is a plan right? -/
namespace Go.Proofs.YtlmjdcbhpffanaaGreat
open Go.Sx Go.Pl
set_option linter.unusedVariables false
set_option maxRecDepth 100000
theorem zYc(c:Cir)(p:Pln)(k:Int)(K:List It→St→Prop)(R:SV→List HO→Prop):W (xwp Tryz.prog X qWt [] 60 (qO Tryz.f11 [] [⟨[0,1,0,1,1,1,1,1,1],[9,8,5,3],[]⟩,⟨[0,1,0,1,1,1,1,1,1,1],[10,8,5,3],[]⟩,⟨[0,1,1,1,0,0,1,0,0,1,0,1,1,1,1,1,1,1],[12,11,10,8,5,3],[]⟩,⟨[0,1,0,1,1,1,1,1,1,1,1],[13,8,5,3],[]⟩,⟨[0,1,0,1,1,1,1,1,1,1,1,1],[14,8,5],[]⟩]) [] [.at []] ⟨qQ 0 [.agg [.v (.int .i64 c.fx),.v (.int .i64 c.ad),.v (.int .i64 c.ins),.x 0 [],.x 1 [],.x 2 [],.x 3 []],.v (.int .i64 k),.agg [.x 4 [],.x 5 [],.x 6 [],.x 7 []]],[.ext false (.s false 7 c.4.length (cN c.4)),.ext false (.s false 1 c.5.length (cI c.5)),.ext false (.s false 2 c.6.length (cL c.6)),.ext false (.s false 2 c.7.length (cK c.7)),.ext false (.s false 2 p.1.length (cRg p.1)),.ext false (.s false 2 p.2.length (cTa p.2)),.ext false (.s false 6 p.3.length (cLk p.3)),.ext false (.s false 1 p.4.length (cT p.4))]⟩ K R)=W (lC c.1 c.2 c.3 c.4.length c.5.length c.6.length c.7.length (cN c.4) (cI c.5) (cL c.6) (cK c.7) fun(c_1:Cir)=>bif !wM c_1==(0:Int) then R (.v (qA (wM c_1))) [] else bif decide (k<(3:Int)) then R (.v (qA 60)) [] else bif decide ((5:Int)<k) then R (.v (qA 60)) [] else bif decide ((64:Int)<(↑p.1.length:Int)) then R (.v (qA 140)) [] else bif decide ((256:Int)<(↑p.3.length:Int)) then R (.v (qA 140)) [] else bif !(↑p.4.length:Int)==c.3 then R (.v (qA 140)) [] else K [.at [0,1,0,1,1,1,1,1,1],.blk 0,.at [1,1,1,1,1,1,1]] (St.mk [(9,.v (qA 0)),(8,.v (qA (usN k))),(5,.p 0 0),(3,.p 1 0)] [.cells [.x 2 [],.x 3 [],.x 4 [],.x 5 []] 33,.cells [.v (qA c.1),.v (qA c.2),.v (qA c.3),.x 6 [],.x 7 [],.x 8 [],.x 9 []] 27,.ext false (.s false 2 p.1.length (cRg p.1)),.ext false (.s false 2 p.2.length (cTa p.2)),.ext false (.s false 6 p.3.length (cLk p.3)),.ext false (.s false 1 p.4.length (cT p.4)),.ext false (.s false 7 c.4.length (cN c.4)),.ext false (.s false 1 c.5.length (cI c.5)),.ext false (.s false 2 c.6.length (cL c.6)),.ext false (.s false 2 c.7.length (cK c.7))])):=by kernel_rfl
theorem zRk(c:Cir)(p:Pln)(k:Int)(i M:Nat)(K:List It→St→Prop)(R:SV→List HO→Prop):W (xwp Tryz.prog X qWt [] 60 (qO Tryz.f11 [] [⟨[0,1,0,1,1,1,1,1,1],[9,8,5,3],[]⟩,⟨[0,1,0,1,1,1,1,1,1,1],[10,8,5,3],[]⟩,⟨[0,1,1,1,0,0,1,0,0,1,0,1,1,1,1,1,1,1],[12,11,10,8,5,3],[]⟩,⟨[0,1,0,1,1,1,1,1,1,1,1],[13,8,5,3],[]⟩,⟨[0,1,0,1,1,1,1,1,1,1,1,1],[14,8,5],[]⟩]) [] (.at [0,0,1,0,1,1,1,1,1,1]::.rnd [0,0,1,0,1,1,1,1,1,1] M::[.blk 0,.at [1,1,1,1,1,1,1]]) (St.mk [(9,.v (qA (i:Int))),(8,.v (qA (usN k))),(5,.p 0 0),(3,.p 1 0)] [.cells [.x 2 [],.x 3 [],.x 4 [],.x 5 []] 33,.cells [.v (qA c.1),.v (qA c.2),.v (qA c.3),.x 6 [],.x 7 [],.x 8 [],.x 9 []] 27,.ext false (.s false 2 p.1.length (cRg p.1)),.ext false (.s false 2 p.2.length (cTa p.2)),.ext false (.s false 6 p.3.length (cLk p.3)),.ext false (.s false 1 p.4.length (cT p.4)),.ext false (.s false 7 c.4.length (cN c.4)),.ext false (.s false 1 c.5.length (cI c.5)),.ext false (.s false 2 c.6.length (cL c.6)),.ext false (.s false 2 c.7.length (cK c.7))]) K R)=W (bif decide ((↑i:Int)<(↑p.1.length:Int)) then(∀ M:Mem,(0:Int)≤(↑i:Int)∧(↑i:Int)<(↑p.1.length:Int))∧(∀ M:Mem,i<List.length p.1)∧(∀ M:Mem,i<List.length p.1)∧lSh c.1 c.2 c.3 c.4.length c.5.length c.6.length c.7.length p.1.length p.2.length p.3.length p.4.length (cN c.4) (cI c.5) (cL c.6) (cK c.7) (cRg p.1) (cTa p.2) (cLk p.3) (cT p.4) fun(c_1:Cir) (p_1:Pln)=>lPp (List.length (gRg p.1 i).2) (cPt (gRg p.1 i).2) fun(l:List Pt)=>bif !qAm c_1 p_1 ((gRg p.1 i).1,l) then R (.v (qA 140)) [] else K [.rnd [0,0,1,0,1,1,1,1,1,1] M,.blk 0,.at [1,1,1,1,1,1,1]] (St.mk [(9,.v (qA (IntKind.wrap .i64 ((↑i:Int)+(1:Int))))),(8,.v (qA (usN k))),(5,.p 0 0),(3,.p 1 0)] [.cells [.x 2 [],.x 3 [],.x 4 [],.x 5 []] 33,.cells [.v (qA c.1),.v (qA c.2),.v (qA c.3),.x 6 [],.x 7 [],.x 8 [],.x 9 []] 27,.ext false (.s false 2 p.1.length (cRg p.1)),.ext false (.s false 2 p.2.length (cTa p.2)),.ext false (.s false 6 p.3.length (cLk p.3)),.ext false (.s false 1 p.4.length (cT p.4)),.ext false (.s false 7 c.4.length (cN c.4)),.ext false (.s false 1 c.5.length (cI c.5)),.ext false (.s false 2 c.6.length (cL c.6)),.ext false (.s false 2 c.7.length (cK c.7))]) else K [.at [0,1,0,1,1,1,1,1,1,1],.blk 2,.at [1,1,1,1,1,1,1,1]] (St.mk [(10,.v (qA 0)),(8,.v (qA (usN k))),(5,.p 0 0),(3,.p 1 0)] [.cells [.x 2 [],.x 3 [],.x 4 [],.x 5 []] 33,.cells [.v (qA c.1),.v (qA c.2),.v (qA c.3),.x 6 [],.x 7 [],.x 8 [],.x 9 []] 27,.ext false (.s false 2 p.1.length (cRg p.1)),.ext false (.s false 2 p.2.length (cTa p.2)),.ext false (.s false 6 p.3.length (cLk p.3)),.ext false (.s false 1 p.4.length (cT p.4)),.ext false (.s false 7 c.4.length (cN c.4)),.ext false (.s false 1 c.5.length (cI c.5)),.ext false (.s false 2 c.6.length (cL c.6)),.ext false (.s false 2 c.7.length (cK c.7))])):=by kernel_rfl
theorem zSf(c:Cir)(p:Pln)(k:Int)(i M:Nat)(K:List It→St→Prop)(R:SV→List HO→Prop):W (xwp Tryz.prog X qWt [] 60 (qO Tryz.f11 [] [⟨[0,1,0,1,1,1,1,1,1],[9,8,5,3],[]⟩,⟨[0,1,0,1,1,1,1,1,1,1],[10,8,5,3],[]⟩,⟨[0,1,1,1,0,0,1,0,0,1,0,1,1,1,1,1,1,1],[12,11,10,8,5,3],[]⟩,⟨[0,1,0,1,1,1,1,1,1,1,1],[13,8,5,3],[]⟩,⟨[0,1,0,1,1,1,1,1,1,1,1,1],[14,8,5],[]⟩]) [] (.at [0,0,1,0,1,1,1,1,1,1,1]::.rnd [0,0,1,0,1,1,1,1,1,1,1] M::[.blk 2,.at [1,1,1,1,1,1,1,1]]) (St.mk [(10,.v (qA (i:Int))),(8,.v (qA (usN k))),(5,.p 0 0),(3,.p 1 0)] [.cells [.x 2 [],.x 3 [],.x 4 [],.x 5 []] 33,.cells [.v (qA c.1),.v (qA c.2),.v (qA c.3),.x 6 [],.x 7 [],.x 8 [],.x 9 []] 27,.ext false (.s false 2 p.1.length (cRg p.1)),.ext false (.s false 2 p.2.length (cTa p.2)),.ext false (.s false 6 p.3.length (cLk p.3)),.ext false (.s false 1 p.4.length (cT p.4)),.ext false (.s false 7 c.4.length (cN c.4)),.ext false (.s false 1 c.5.length (cI c.5)),.ext false (.s false 2 c.6.length (cL c.6)),.ext false (.s false 2 c.7.length (cK c.7))]) K R)=W (bif decide ((↑i:Int)<(↑p.2.length:Int)) then(∀ M:Mem,(0:Int)≤(↑i:Int)∧(↑i:Int)<(↑p.2.length:Int))∧(∀ M:Mem,i<List.length p.2)∧(∀ M:Mem,0+2≤2)∧bif decide ((gTa p.2 i).1<(0:Int)) then R (.v (qA 140)) [] else bif decide (c.1≤(gTa p.2 i).1) then R (.v (qA 140)) [] else K [.at [0,1,1,1,0,0,1,0,0,1,0,1,1,1,1,1,1,1],.blk 4,.blk 3,.at [1,1,0,0,1,0,1,1,1,1,1,1,1],.rnd [0,0,1,0,1,1,1,1,1,1,1] M,.blk 2,.at [1,1,1,1,1,1,1,1]] (St.mk [(12,.v (qA 0)),(11,.p 0 0),(10,.v (qA (↑i:Int))),(8,.v (qA (usN k))),(5,.p 1 0),(3,.p 2 0)] [.cells [.v (qA (gTa p.2 i).1),.x 3 [(2,i,1)]] 78,.cells [.x 4 [],.x 3 [],.x 5 [],.x 6 []] 33,.cells [.v (qA c.1),.v (qA c.2),.v (qA c.3),.x 7 [],.x 8 [],.x 9 [],.x 10 []] 27,.ext false (.s false 2 p.2.length (cTa p.2)),.ext false (.s false 2 p.1.length (cRg p.1)),.ext false (.s false 6 p.3.length (cLk p.3)),.ext false (.s false 1 p.4.length (cT p.4)),.ext false (.s false 7 c.4.length (cN c.4)),.ext false (.s false 1 c.5.length (cI c.5)),.ext false (.s false 2 c.6.length (cL c.6)),.ext false (.s false 2 c.7.length (cK c.7))]) else K [.at [0,1,0,1,1,1,1,1,1,1,1],.blk 6,.at [1,1,1,1,1,1,1,1,1]] (St.mk [(13,.v (qA 0)),(8,.v (qA (usN k))),(5,.p 0 0),(3,.p 1 0)] [.cells [.x 2 [],.x 3 [],.x 4 [],.x 5 []] 33,.cells [.v (qA c.1),.v (qA c.2),.v (qA c.3),.x 6 [],.x 7 [],.x 8 [],.x 9 []] 27,.ext false (.s false 2 p.1.length (cRg p.1)),.ext false (.s false 2 p.2.length (cTa p.2)),.ext false (.s false 6 p.3.length (cLk p.3)),.ext false (.s false 1 p.4.length (cT p.4)),.ext false (.s false 7 c.4.length (cN c.4)),.ext false (.s false 1 c.5.length (cI c.5)),.ext false (.s false 2 c.6.length (cL c.6)),.ext false (.s false 2 c.7.length (cK c.7))])):=by kernel_rfl
theorem zTl(c:Cir)(p:Pln)(k:Int)(i j M M2:Nat)(K:List It→St→Prop)(R:SV→List HO→Prop):W (xwp Tryz.prog X qWt [] 60 (qO Tryz.f11 [] [⟨[0,1,0,1,1,1,1,1,1],[9,8,5,3],[]⟩,⟨[0,1,0,1,1,1,1,1,1,1],[10,8,5,3],[]⟩,⟨[0,1,1,1,0,0,1,0,0,1,0,1,1,1,1,1,1,1],[12,11,10,8,5,3],[]⟩,⟨[0,1,0,1,1,1,1,1,1,1,1],[13,8,5,3],[]⟩,⟨[0,1,0,1,1,1,1,1,1,1,1,1],[14,8,5],[]⟩]) [] (.at [0,0,1,1,1,0,0,1,0,0,1,0,1,1,1,1,1,1,1]::.rnd [0,0,1,1,1,0,0,1,0,0,1,0,1,1,1,1,1,1,1] M::[.blk 4,.blk 3,.at [1,1,0,0,1,0,1,1,1,1,1,1,1],.rnd [0,0,1,0,1,1,1,1,1,1,1] M2,.blk 2,.at [1,1,1,1,1,1,1,1]]) (St.mk [(12,.v (qA (j:Int))),(11,.p 0 0),(10,.v (qA (↑i:Int))),(8,.v (qA (usN k))),(5,.p 1 0),(3,.p 2 0)] [.cells [.v (qA (gTa p.2 i).1),.x 3 [(2,i,1)]] 78,.cells [.x 4 [],.x 3 [],.x 5 [],.x 6 []] 33,.cells [.v (qA c.1),.v (qA c.2),.v (qA c.3),.x 7 [],.x 8 [],.x 9 [],.x 10 []] 27,.ext false (.s false 2 p.2.length (cTa p.2)),.ext false (.s false 2 p.1.length (cRg p.1)),.ext false (.s false 6 p.3.length (cLk p.3)),.ext false (.s false 1 p.4.length (cT p.4)),.ext false (.s false 7 c.4.length (cN c.4)),.ext false (.s false 1 c.5.length (cI c.5)),.ext false (.s false 2 c.6.length (cL c.6)),.ext false (.s false 2 c.7.length (cK c.7))]) K R)=W (bif decide ((↑j:Int)<(↑i:Int)) then(∀ M:Mem,(0:Int)≤(↑j:Int)∧(↑j:Int)<(↑p.2.length:Int))∧(∀ M:Mem,j<List.length p.2)∧(∀ M:Mem,j<List.length p.2)∧bif(gTa p.2 j).1==(gTa p.2 i).1 then R (.v (qA 140)) [] else K [.rnd [0,0,1,1,1,0,0,1,0,0,1,0,1,1,1,1,1,1,1] M,.blk 4,.blk 3,.at [1,1,0,0,1,0,1,1,1,1,1,1,1],.rnd [0,0,1,0,1,1,1,1,1,1,1] M2,.blk 2,.at [1,1,1,1,1,1,1,1]] (St.mk [(12,.v (qA (IntKind.wrap .i64 ((↑j:Int)+(1:Int))))),(11,.p 0 0),(10,.v (qA (↑i:Int))),(8,.v (qA (usN k))),(5,.p 1 0),(3,.p 2 0)] [.cells [.v (qA (gTa p.2 i).1),.x 3 [(2,i,1)]] 78,.cells [.x 4 [],.x 3 [],.x 5 [],.x 6 []] 33,.cells [.v (qA c.1),.v (qA c.2),.v (qA c.3),.x 7 [],.x 8 [],.x 9 [],.x 10 []] 27,.ext false (.s false 2 p.2.length (cTa p.2)),.ext false (.s false 2 p.1.length (cRg p.1)),.ext false (.s false 6 p.3.length (cLk p.3)),.ext false (.s false 1 p.4.length (cT p.4)),.ext false (.s false 7 c.4.length (cN c.4)),.ext false (.s false 1 c.5.length (cI c.5)),.ext false (.s false 2 c.6.length (cL c.6)),.ext false (.s false 2 c.7.length (cK c.7))]) else K [.rnd [0,0,1,0,1,1,1,1,1,1,1] M2,.blk 2,.at [1,1,1,1,1,1,1,1]] (St.mk [(10,.v (qA (IntKind.wrap .i64 ((↑i:Int)+(1:Int))))),(8,.v (qA (usN k))),(5,.p 0 0),(3,.p 1 0)] [.cells [.x 2 [],.x 3 [],.x 4 [],.x 5 []] 33,.cells [.v (qA c.1),.v (qA c.2),.v (qA c.3),.x 6 [],.x 7 [],.x 8 [],.x 9 []] 27,.ext false (.s false 2 p.1.length (cRg p.1)),.ext false (.s false 2 p.2.length (cTa p.2)),.ext false (.s false 6 p.3.length (cLk p.3)),.ext false (.s false 1 p.4.length (cT p.4)),.ext false (.s false 7 c.4.length (cN c.4)),.ext false (.s false 1 c.5.length (cI c.5)),.ext false (.s false 2 c.6.length (cL c.6)),.ext false (.s false 2 c.7.length (cK c.7))])):=by kernel_rfl
theorem zTm(c:Cir)(p:Pln)(k:Int)(i M:Nat)(K:List It→St→Prop)(R:SV→List HO→Prop):W (xwp Tryz.prog X qWt [] 60 (qO Tryz.f11 [] [⟨[0,1,0,1,1,1,1,1,1],[9,8,5,3],[]⟩,⟨[0,1,0,1,1,1,1,1,1,1],[10,8,5,3],[]⟩,⟨[0,1,1,1,0,0,1,0,0,1,0,1,1,1,1,1,1,1],[12,11,10,8,5,3],[]⟩,⟨[0,1,0,1,1,1,1,1,1,1,1],[13,8,5,3],[]⟩,⟨[0,1,0,1,1,1,1,1,1,1,1,1],[14,8,5],[]⟩]) [] (.at [0,0,1,0,1,1,1,1,1,1,1,1]::.rnd [0,0,1,0,1,1,1,1,1,1,1,1] M::[.blk 6,.at [1,1,1,1,1,1,1,1,1]]) (St.mk [(13,.v (qA (i:Int))),(8,.v (qA (usN k))),(5,.p 0 0),(3,.p 1 0)] [.cells [.x 2 [],.x 3 [],.x 4 [],.x 5 []] 33,.cells [.v (qA c.1),.v (qA c.2),.v (qA c.3),.x 6 [],.x 7 [],.x 8 [],.x 9 []] 27,.ext false (.s false 2 p.1.length (cRg p.1)),.ext false (.s false 2 p.2.length (cTa p.2)),.ext false (.s false 6 p.3.length (cLk p.3)),.ext false (.s false 1 p.4.length (cT p.4)),.ext false (.s false 7 c.4.length (cN c.4)),.ext false (.s false 1 c.5.length (cI c.5)),.ext false (.s false 2 c.6.length (cL c.6)),.ext false (.s false 2 c.7.length (cK c.7))]) K R)=W (bif decide ((↑i:Int)<(↑p.3.length:Int)) then(∀ M:Mem,(0:Int)≤(↑i:Int)∧(↑i:Int)<(↑p.3.length:Int))∧(∀ M:Mem,i<List.length p.3)∧(∀ M:Mem,i<List.length p.3)∧lSh c.1 c.2 c.3 c.4.length c.5.length c.6.length c.7.length p.1.length p.2.length p.3.length p.4.length (cN c.4) (cI c.5) (cL c.6) (cK c.7) (cRg p.1) (cTa p.2) (cLk p.3) (cT p.4) fun(c_1:Cir) (p_1:Pln)=>bif !wF c_1 p_1 (usN k) (gLk p.3 i).1.1 (gLk p.3 i).1.2.1 (gLk p.3 i).1.2.2 then R (.v (qA 140)) [] else(∀ M:Mem,(0:Int)≤(↑i:Int)∧(↑i:Int)<(↑p.3.length:Int))∧(∀ M:Mem,i<List.length p.3)∧(∀ M:Mem,i<List.length p.3)∧lSh c.1 c.2 c.3 c.4.length c.5.length c.6.length c.7.length p.1.length p.2.length p.3.length p.4.length (cN c.4) (cI c.5) (cL c.6) (cK c.7) (cRg p.1) (cTa p.2) (cLk p.3) (cT p.4) fun(c_2:Cir) (p_2:Pln)=>bif !wF c_2 p_2 (usN k) (gLk p.3 i).2.1 (gLk p.3 i).2.2.1 (gLk p.3 i).2.2.2 then R (.v (qA 140)) [] else K [.rnd [0,0,1,0,1,1,1,1,1,1,1,1] M,.blk 6,.at [1,1,1,1,1,1,1,1,1]] (St.mk [(13,.v (qA (IntKind.wrap .i64 ((↑i:Int)+(1:Int))))),(8,.v (qA (usN k))),(5,.p 0 0),(3,.p 1 0)] [.cells [.x 2 [],.x 3 [],.x 4 [],.x 5 []] 33,.cells [.v (qA c.1),.v (qA c.2),.v (qA c.3),.x 6 [],.x 7 [],.x 8 [],.x 9 []] 27,.ext false (.s false 2 p.1.length (cRg p.1)),.ext false (.s false 2 p.2.length (cTa p.2)),.ext false (.s false 6 p.3.length (cLk p.3)),.ext false (.s false 1 p.4.length (cT p.4)),.ext false (.s false 7 c.4.length (cN c.4)),.ext false (.s false 1 c.5.length (cI c.5)),.ext false (.s false 2 c.6.length (cL c.6)),.ext false (.s false 2 c.7.length (cK c.7))]) else K [.at [0,1,0,1,1,1,1,1,1,1,1,1],.blk 8,.at [1,1,1,1,1,1,1,1,1,1]] (St.mk [(14,.v (qA 0)),(8,.v (qA (usN k))),(5,.p 0 0)] [.cells [.x 1 [],.x 2 [],.x 3 [],.x 4 []] 33,.ext false (.s false 2 p.1.length (cRg p.1)),.ext false (.s false 2 p.2.length (cTa p.2)),.ext false (.s false 6 p.3.length (cLk p.3)),.ext false (.s false 1 p.4.length (cT p.4))])):=by kernel_rfl
theorem zPq(c:Cir)(p:Pln)(k:Int)(i M:Nat)(K:List It→St→Prop)(R:SV→List HO→Prop):W (xwp Tryz.prog X qWt [] 60 (qO Tryz.f11 [] [⟨[0,1,0,1,1,1,1,1,1],[9,8,5,3],[]⟩,⟨[0,1,0,1,1,1,1,1,1,1],[10,8,5,3],[]⟩,⟨[0,1,1,1,0,0,1,0,0,1,0,1,1,1,1,1,1,1],[12,11,10,8,5,3],[]⟩,⟨[0,1,0,1,1,1,1,1,1,1,1],[13,8,5,3],[]⟩,⟨[0,1,0,1,1,1,1,1,1,1,1,1],[14,8,5],[]⟩]) [] (.at [0,0,1,0,1,1,1,1,1,1,1,1,1]::.rnd [0,0,1,0,1,1,1,1,1,1,1,1,1] M::[.blk 8,.at [1,1,1,1,1,1,1,1,1,1]]) (St.mk [(14,.v (qA (i:Int))),(8,.v (qA (usN k))),(5,.p 0 0)] [.cells [.x 1 [],.x 2 [],.x 3 [],.x 4 []] 33,.ext false (.s false 2 p.1.length (cRg p.1)),.ext false (.s false 2 p.2.length (cTa p.2)),.ext false (.s false 6 p.3.length (cLk p.3)),.ext false (.s false 1 p.4.length (cT p.4))]) K R)=W (bif decide ((↑i:Int)<(↑p.4.length:Int)) then(∀ M:Mem,(0:Int)≤(↑i:Int)∧(↑i:Int)<(↑p.4.length:Int))∧(∀ M:Mem,i<List.length p.4)∧(∀ M:Mem,i<List.length p.4)∧bif decide (usN k<(↑(List.length (gT p.4 i)):Int)) then R (.v (qA 140)) [] else K [.rnd [0,0,1,0,1,1,1,1,1,1,1,1,1] M,.blk 8,.at [1,1,1,1,1,1,1,1,1,1]] (St.mk [(14,.v (qA (IntKind.wrap .i64 ((↑i:Int)+(1:Int))))),(8,.v (qA (usN k))),(5,.p 0 0)] [.cells [.x 1 [],.x 2 [],.x 3 [],.x 4 []] 33,.ext false (.s false 2 p.1.length (cRg p.1)),.ext false (.s false 2 p.2.length (cTa p.2)),.ext false (.s false 6 p.3.length (cLk p.3)),.ext false (.s false 1 p.4.length (cT p.4))]) else R (.v (qA 0)) []):=by kernel_rfl
theorem qPu(c:Cir)(hc:c.ok)(p:Pln)(hp:p.ok)(k:Int)(Q:SV→List HO→Prop)(hOk:(∀ x∈p.is,(x.length:Int)≤usN k)→Q (SV.v (qA (0:Int))) [])(hBad:¬ (∀ x∈p.is,(x.length:Int)≤usN k)→Q (SV.v (qA (140:Int))) []):∀(d i:Nat),i+d=p.is.length→(∀ x∈p.is.take i,(x.length:Int)≤usN k) →
  FOk Tryz.prog Tryz.f11 Q (.rnd [0,0,1,0,1,1,1,1,1,1,1,1,1] (d+1)::[.blk 8,.at [1,1,1,1,1,1,1,1,1,1]]) (St.mk [(14,SV.v (qA (i:Int))),(8,SV.v (qA (usN k))),(5,SV.p 0 0)] [HO.cells [SV.x 1 [],SV.x 2 [],SV.x 3 [],SV.x 4 []] 33,HO.ext false (qB.s false 2 (List.length p.1) (cRg p.1)),HO.ext false (qB.s false 2 (List.length p.2) (cTa p.2)),HO.ext false (qB.s false 6 (List.length p.3) (cLk p.3)),HO.ext false (qB.s false 1 (List.length p.4) (cT p.4))])
 | 0,i,hd,h1=>by
  refine FOk.rnd (qC hm 60 ((zPq c p k i 0 _ _).mpr ⟨?_⟩))
  rw[qD,if_neg (by omega)]
  rw[show i=p.is.length by omega,List.take_length] at h1
  exact hOk h1
 | d+1,i,hd,h1=>by
  have hi:i<p.is.length:=by omega
  have hb:=hp.i.2
  refine FOk.rnd (qC hm 60 ((zPq c p k i (d+1) _ _).mpr ⟨?_⟩))
  rw[qD,if_pos (by omega),qK _ (by omega)]
  repeat' (refine And.intro (fun _=>by omega) ?_)
  refine qJ (fun h=>hBad fun ha=>?_) (fun h=>?_)
  ·have:=of_decide_eq_true h
   have:=ha _ (qKu hi)
   omega
  have h:=of_decide_eq_false h
  have hg:((gT p.is i).length:Int)≤usN k:=by omega
  refine qPu c hc p hp k Q hOk hBad d (i+1) (by omega) fun x hx=>?_
  rw[qRj hi,List.mem_append,List.mem_singleton] at hx
  rcases hx with hx | hx
  ·exact h1 x hx
  ·rw[hx]; exact hg
theorem qOj(c:Cir)(hc:c.ok)(p:Pln)(hp:p.ok)(k:Int)(Q:SV→List HO→Prop)(hOk:(∀ x∈p.lk,wF c p (usN k) x.1.1 x.1.2.1 x.1.2.2=true∧wF c p (usN k) x.2.1 x.2.2.1 x.2.2.2=true)→FOk Tryz.prog Tryz.f11 Q (.at [0,1,0,1,1,1,1,1,1,1,1,1]::[.blk 8,.at [1,1,1,1,1,1,1,1,1,1]]) (St.mk [(14,SV.v (qA (0:Int))),(8,SV.v (qA (usN k))),(5,SV.p 0 0)] [HO.cells [SV.x 1 [],SV.x 2 [],SV.x 3 [],SV.x 4 []] 33,HO.ext false (qB.s false 2 (List.length p.1) (cRg p.1)),HO.ext false (qB.s false 2 (List.length p.2) (cTa p.2)),HO.ext false (qB.s false 6 (List.length p.3) (cLk p.3)),HO.ext false (qB.s false 1 (List.length p.4) (cT p.4))]))(hBad:¬ (∀ x∈p.lk,wF c p (usN k) x.1.1 x.1.2.1 x.1.2.2=true∧wF c p (usN k) x.2.1 x.2.2.1 x.2.2.2=true)→Q (SV.v (qA (140:Int))) []):∀(d i:Nat),i+d=p.lk.length→(∀ x∈p.lk.take i,wF c p (usN k) x.1.1 x.1.2.1 x.1.2.2=true∧wF c p (usN k) x.2.1 x.2.2.1 x.2.2.2=true) →
  FOk Tryz.prog Tryz.f11 Q (.rnd [0,0,1,0,1,1,1,1,1,1,1,1] (d+1)::[.blk 6,.at [1,1,1,1,1,1,1,1,1]]) (St.mk [(13,SV.v (qA (i:Int))),(8,SV.v (qA (usN k))),(5,SV.p 0 0),(3,SV.p 1 0)] [HO.cells [SV.x 2 [],SV.x 3 [],SV.x 4 [],SV.x 5 []] 33,HO.cells [SV.v (qA c.1),SV.v (qA c.2),SV.v (qA c.3),SV.x 6 [],SV.x 7 [],SV.x 8 [],SV.x 9 []] 27,HO.ext false (qB.s false 2 (List.length p.1) (cRg p.1)),HO.ext false (qB.s false 2 (List.length p.2) (cTa p.2)),HO.ext false (qB.s false 6 (List.length p.3) (cLk p.3)),HO.ext false (qB.s false 1 (List.length p.4) (cT p.4)),HO.ext false (qB.s false 7 (List.length c.4) (cN c.4)),HO.ext false (qB.s false 1 (List.length c.5) (cI c.5)),HO.ext false (qB.s false 2 (List.length c.6) (cL c.6)),HO.ext false (qB.s false 2 (List.length c.7) (cK c.7))])
 | 0,i,hd,h1=>by
  refine FOk.rnd (qC hm 60 ((zTm c p k i 0 _ _).mpr ⟨?_⟩))
  rw[qD,if_neg (by omega)]
  rw[show i=p.lk.length by omega,List.take_length] at h1
  exact hOk h1
 | d+1,i,hd,h1=>by
  have hi:i<p.lk.length:=by omega
  have hb:=hp.l.2
  refine FOk.rnd (qC hm 60 ((zTm c p k i (d+1) _ _).mpr ⟨?_⟩))
  rw[qD,if_pos (by omega),qK _ (by omega)]
  repeat' (refine And.intro (fun _=>by omega) ?_)
  refine jX c hc p hp ?_
  refine qJ (fun h=>hBad fun ha=>by rw[(ha _ (qJr hi)).1] at h; cases h) (fun g1=>?_)
  repeat' (refine And.intro (fun _=>by omega) ?_)
  refine jX c hc p hp ?_
  refine qJ (fun h=>hBad fun ha=>by rw[(ha _ (qJr hi)).2] at h; cases h) (fun g2=>?_)
  have hg:=And.intro ((by simpa using g1:wF c p (usN k) (gLk p.lk i).1.1 (gLk p.lk i).1.2.1 (gLk p.lk i).1.2.2=true)) ((by simpa using g2:wF c p (usN k) (gLk p.lk i).2.1 (gLk p.lk i).2.2.1 (gLk p.lk i).2.2.2=true))
  refine qOj c hc p hp k Q hOk hBad d (i+1) (by omega) fun x hx=>?_
  rw[qKp hi,List.mem_append,List.mem_singleton] at hx
  rcases hx with hx | hx
  ·exact h1 x hx
  ·rw[hx]; exact hg
theorem zPd{l:List (Int×List Nat)}(h:l.Pairwise (fun a b=>a.1≠b.1)){i j:Nat}(hj:j<i)(hi:i<l.length):(gTa l j).1≠(gTa l i).1:=by
 have:=List.pairwise_iff_getElem.1 h j i (by omega) hi hj
 rw[gTa,gTa,List.getD_eq_getElem?_getD,List.getD_eq_getElem?_getD,List.getElem?_eq_getElem hi,List.getElem?_eq_getElem (by omega:j<l.length)]
 exact this
theorem qOv(c:Cir)(p:Pln)(hp:p.ok)(k:Int)(i M2:Nat)(hi:i<p.tb.length)(Q:SV→List HO→Prop)(hF:(∃ j,j<i∧(gTa p.tb j).1=(gTa p.tb i).1)→Q (SV.v (qA (140:Int))) [])(hN:(∀ j,j<i→(gTa p.tb j).1≠(gTa p.tb i).1)→FOk Tryz.prog Tryz.f11 Q (.rnd [0,0,1,0,1,1,1,1,1,1,1] M2::[.blk 2,.at [1,1,1,1,1,1,1,1]]) (St.mk [(10,SV.v (qA ((i+1:Nat):Int))),(8,SV.v (qA (usN k))),(5,SV.p 0 0),(3,SV.p 1 0)] [HO.cells [SV.x 2 [],SV.x 3 [],SV.x 4 [],SV.x 5 []] 33,HO.cells [SV.v (qA c.1),SV.v (qA c.2),SV.v (qA c.3),SV.x 6 [],SV.x 7 [],SV.x 8 [],SV.x 9 []] 27,HO.ext false (qB.s false 2 (List.length p.1) (cRg p.1)),HO.ext false (qB.s false 2 (List.length p.2) (cTa p.2)),HO.ext false (qB.s false 6 (List.length p.3) (cLk p.3)),HO.ext false (qB.s false 1 (List.length p.4) (cT p.4)),HO.ext false (qB.s false 7 (List.length c.4) (cN c.4)),HO.ext false (qB.s false 1 (List.length c.5) (cI c.5)),HO.ext false (qB.s false 2 (List.length c.6) (cL c.6)),HO.ext false (qB.s false 2 (List.length c.7) (cK c.7))])):∀(d j:Nat),j+d=i→(∀ j',j'<j→(gTa p.tb j').1≠(gTa p.tb i).1) →
  FOk Tryz.prog Tryz.f11 Q (.rnd [0,0,1,1,1,0,0,1,0,0,1,0,1,1,1,1,1,1,1] (d+1)::[.blk 4,.blk 3,.at [1,1,0,0,1,0,1,1,1,1,1,1,1],.rnd [0,0,1,0,1,1,1,1,1,1,1] M2,.blk 2,.at [1,1,1,1,1,1,1,1]]) (St.mk [(12,SV.v (qA (j:Int))),(11,SV.p 0 0),(10,SV.v (qA (↑i:Int))),(8,SV.v (qA (usN k))),(5,SV.p 1 0),(3,SV.p 2 0)] [HO.cells [SV.v (qA (gTa p.2 i).1),SV.x 3 [(2,i,1)]] 78,HO.cells [SV.x 4 [],SV.x 3 [],SV.x 5 [],SV.x 6 []] 33,HO.cells [SV.v (qA c.1),SV.v (qA c.2),SV.v (qA c.3),SV.x 7 [],SV.x 8 [],SV.x 9 [],SV.x 10 []] 27,HO.ext false (qB.s false 2 (List.length p.2) (cTa p.2)),HO.ext false (qB.s false 2 (List.length p.1) (cRg p.1)),HO.ext false (qB.s false 6 (List.length p.3) (cLk p.3)),HO.ext false (qB.s false 1 (List.length p.4) (cT p.4)),HO.ext false (qB.s false 7 (List.length c.4) (cN c.4)),HO.ext false (qB.s false 1 (List.length c.5) (cI c.5)),HO.ext false (qB.s false 2 (List.length c.6) (cL c.6)),HO.ext false (qB.s false 2 (List.length c.7) (cK c.7))])
 | 0,j,hd,hj=>by
  have hb:=hp.t.2
  refine FOk.rnd (qC hm 60 ((zTl c p k i j 0 M2 _ _).mpr ⟨?_⟩))
  rw[qD,if_neg (by omega),qK i (by omega)]
  exact hN fun j' h=>hj j' (by omega)
 | d+1,j,hd,hj=>by
  have hb:=hp.t.2
  refine FOk.rnd (qC hm 60 ((zTl c p k i j (d+1) M2 _ _).mpr ⟨?_⟩))
  rw[qD,if_pos (by omega),qK j (by omega)]
  repeat' (refine And.intro (fun _=>by omega) ?_)
  rw[zC]
  refine qG (fun a=>hF ⟨j,by omega,a⟩) (fun a=>qOv c p hp k i M2 hi Q hF hN d (j+1) (by omega) fun j' h=>?_)
  rcases Nat.lt_or_ge j' j with h2 | h2
  ·exact hj j' h2
  ·obtain rfl:j'=j:=by omega
   exact a
theorem qOo(c:Cir)(p:Pln)(hp:p.ok)(k:Int)(Q:SV→List HO→Prop)(hOk:(∀ t∈p.tb,0≤t.1∧t.1<c.fx)∧p.tb.Pairwise (fun a b=>a.1≠b.1)→FOk Tryz.prog Tryz.f11 Q (.at [0,1,0,1,1,1,1,1,1,1,1]::[.blk 6,.at [1,1,1,1,1,1,1,1,1]]) (St.mk [(13,SV.v (qA (0:Int))),(8,SV.v (qA (usN k))),(5,SV.p 0 0),(3,SV.p 1 0)] [HO.cells [SV.x 2 [],SV.x 3 [],SV.x 4 [],SV.x 5 []] 33,HO.cells [SV.v (qA c.1),SV.v (qA c.2),SV.v (qA c.3),SV.x 6 [],SV.x 7 [],SV.x 8 [],SV.x 9 []] 27,HO.ext false (qB.s false 2 (List.length p.1) (cRg p.1)),HO.ext false (qB.s false 2 (List.length p.2) (cTa p.2)),HO.ext false (qB.s false 6 (List.length p.3) (cLk p.3)),HO.ext false (qB.s false 1 (List.length p.4) (cT p.4)),HO.ext false (qB.s false 7 (List.length c.4) (cN c.4)),HO.ext false (qB.s false 1 (List.length c.5) (cI c.5)),HO.ext false (qB.s false 2 (List.length c.6) (cL c.6)),HO.ext false (qB.s false 2 (List.length c.7) (cK c.7))]))(hBad:¬ ((∀ t∈p.tb,0≤t.1∧t.1<c.fx)∧p.tb.Pairwise (fun a b=>a.1≠b.1))→Q (SV.v (qA (140:Int))) []):∀(d i:Nat),i+d=p.tb.length→(∀ t∈p.tb.take i,0≤t.1∧t.1<c.fx)→(p.tb.take i).Pairwise (fun a b=>a.1≠b.1) →
  FOk Tryz.prog Tryz.f11 Q (.rnd [0,0,1,0,1,1,1,1,1,1,1] (d+1)::[.blk 2,.at [1,1,1,1,1,1,1,1]]) (St.mk [(10,SV.v (qA (i:Int))),(8,SV.v (qA (usN k))),(5,SV.p 0 0),(3,SV.p 1 0)] [HO.cells [SV.x 2 [],SV.x 3 [],SV.x 4 [],SV.x 5 []] 33,HO.cells [SV.v (qA c.1),SV.v (qA c.2),SV.v (qA c.3),SV.x 6 [],SV.x 7 [],SV.x 8 [],SV.x 9 []] 27,HO.ext false (qB.s false 2 (List.length p.1) (cRg p.1)),HO.ext false (qB.s false 2 (List.length p.2) (cTa p.2)),HO.ext false (qB.s false 6 (List.length p.3) (cLk p.3)),HO.ext false (qB.s false 1 (List.length p.4) (cT p.4)),HO.ext false (qB.s false 7 (List.length c.4) (cN c.4)),HO.ext false (qB.s false 1 (List.length c.5) (cI c.5)),HO.ext false (qB.s false 2 (List.length c.6) (cL c.6)),HO.ext false (qB.s false 2 (List.length c.7) (cK c.7))])
 | 0,i,hd,h1,h2=>by
  refine FOk.rnd (qC hm 60 ((zSf c p k i 0 _ _).mpr ⟨?_⟩))
  rw[qD,if_neg (by omega)]
  rw[show i=p.tb.length by omega,List.take_length] at h1 h2
  exact hOk ⟨h1,h2⟩
 | d+1,i,hd,h1,h2=>by
  have hi:i<p.tb.length:=by omega
  have hb:=hp.t.2
  refine FOk.rnd (qC hm 60 ((zSf c p k i (d+1) _ _).mpr ⟨?_⟩))
  rw[qD,if_pos (by omega)]
  repeat' (refine And.intro (fun _=>by omega) ?_)
  refine qJ (fun h=>hBad fun ha=>by have:=of_decide_eq_true h; have:=ha.1 _ (wY hi); omega) (fun g1=>?_)
  refine qJ (fun h=>hBad fun ha=>by have:=of_decide_eq_true h; have:=ha.1 _ (wY hi); omega) (fun g2=>?_)
  have g1:=of_decide_eq_false g1
  have g2:=of_decide_eq_false g2
  refine FOk.loop (i+1) (by kernel_rfl) (qOv c p hp k i (d+1) hi Q (fun⟨j,hj,e⟩=>hBad fun ha=>zPd ha.2 hj hi e) (fun hn=>?_) i 0 (by omega) (fun j' h=>absurd h (Nat.not_lt_zero j')))
  refine qOo c p hp k Q hOk hBad d (i+1) (by omega) (fun x hx=>?_) ?_
  ·rw[qLn hi,List.mem_append,List.mem_singleton] at hx
   rcases hx with hx | hx
   ·exact h1 x hx
   ·rw[hx]
    show 0≤(gTa p.tb i).1∧(gTa p.tb i).1<c.fx
    omega
  ·rw[qLn hi,List.pairwise_append]
   refine⟨h2,List.pairwise_singleton _ _,fun a ha b hb=>?_⟩
   rw[List.mem_singleton] at hb
   rw[hb]
   obtain⟨j,hj,rfl⟩:=List.mem_iff_getElem.1 ha
   rw[List.length_take] at hj
   have:=hn j (by omega)
   rw[gTa,List.getD_eq_getElem?_getD,List.getElem?_eq_getElem (by omega:j<p.tb.length)] at this
   rw[List.getElem_take]
   exact this
theorem qOt(c:Cir)(hc:c.ok)(p:Pln)(hp:p.ok)(k:Int)(Q:SV→List HO→Prop)(hOk:(∀ x∈p.rg,qAm c p x=true)→FOk Tryz.prog Tryz.f11 Q (.at [0,1,0,1,1,1,1,1,1,1]::[.blk 2,.at [1,1,1,1,1,1,1,1]]) (St.mk [(10,SV.v (qA (0:Int))),(8,SV.v (qA (usN k))),(5,SV.p 0 0),(3,SV.p 1 0)] [HO.cells [SV.x 2 [],SV.x 3 [],SV.x 4 [],SV.x 5 []] 33,HO.cells [SV.v (qA c.1),SV.v (qA c.2),SV.v (qA c.3),SV.x 6 [],SV.x 7 [],SV.x 8 [],SV.x 9 []] 27,HO.ext false (qB.s false 2 (List.length p.1) (cRg p.1)),HO.ext false (qB.s false 2 (List.length p.2) (cTa p.2)),HO.ext false (qB.s false 6 (List.length p.3) (cLk p.3)),HO.ext false (qB.s false 1 (List.length p.4) (cT p.4)),HO.ext false (qB.s false 7 (List.length c.4) (cN c.4)),HO.ext false (qB.s false 1 (List.length c.5) (cI c.5)),HO.ext false (qB.s false 2 (List.length c.6) (cL c.6)),HO.ext false (qB.s false 2 (List.length c.7) (cK c.7))]))(hBad:¬ (∀ x∈p.rg,qAm c p x=true)→Q (SV.v (qA (140:Int))) []):∀(d i:Nat),i+d=p.rg.length→(∀ x∈p.rg.take i,qAm c p x=true) →
  FOk Tryz.prog Tryz.f11 Q (.rnd [0,0,1,0,1,1,1,1,1,1] (d+1)::[.blk 0,.at [1,1,1,1,1,1,1]]) (St.mk [(9,SV.v (qA (i:Int))),(8,SV.v (qA (usN k))),(5,SV.p 0 0),(3,SV.p 1 0)] [HO.cells [SV.x 2 [],SV.x 3 [],SV.x 4 [],SV.x 5 []] 33,HO.cells [SV.v (qA c.1),SV.v (qA c.2),SV.v (qA c.3),SV.x 6 [],SV.x 7 [],SV.x 8 [],SV.x 9 []] 27,HO.ext false (qB.s false 2 (List.length p.1) (cRg p.1)),HO.ext false (qB.s false 2 (List.length p.2) (cTa p.2)),HO.ext false (qB.s false 6 (List.length p.3) (cLk p.3)),HO.ext false (qB.s false 1 (List.length p.4) (cT p.4)),HO.ext false (qB.s false 7 (List.length c.4) (cN c.4)),HO.ext false (qB.s false 1 (List.length c.5) (cI c.5)),HO.ext false (qB.s false 2 (List.length c.6) (cL c.6)),HO.ext false (qB.s false 2 (List.length c.7) (cK c.7))])
 | 0,i,hd,h1=>by
  refine FOk.rnd (qC hm 60 ((zRk c p k i 0 _ _).mpr ⟨?_⟩))
  rw[qD,if_neg (by omega)]
  rw[show i=p.rg.length by omega,List.take_length] at h1
  exact hOk h1
 | d+1,i,hd,h1=>by
  have hi:i<p.rg.length:=by omega
  have hb:=hp.r.2
  refine FOk.rnd (qC hm 60 ((zRk c p k i (d+1) _ _).mpr ⟨?_⟩))
  rw[qD,if_pos (by omega),qK _ (by omega)]
  repeat' (refine And.intro (fun _=>by omega) ?_)
  refine jX c hc p hp (zNf _ (by have:=(hp.r.1 _ (zR hi)).2.2; omega) ?_)
  refine qJ (fun h=>hBad fun ha=>by
   have h:(!qAm c p (gRg p.rg i))=true:=h
   rw[ha _ (zR hi)] at h; cases h) (fun g1=>?_)
  have g1:(!qAm c p (gRg p.rg i))=false:=g1
  have hg:qAm c p (gRg p.rg i)=true:=by simpa using g1
  refine qOt c hc p hp k Q hOk hBad d (i+1) (by omega) fun x hx=>?_
  rw[qLh hi,List.mem_append,List.mem_singleton] at hx
  rcases hx with hx | hx
  ·exact h1 x hx
  ·rw[hx]; exact hg
theorem zWo:Tryz.f11.body.isSome=true:=by kernel_rfl
theorem zXl(c:Cir)(k:Int):Nat.ble ([.agg [.v (.int .i64 c.fx),.v (.int .i64 c.ad),.v (.int .i64 c.ins),.x 0 [],.x 1 [],.x 2 [],.x 3 []],.v (.int .i64 k),.agg [.x 4 [],.x 5 [],.x 6 [],.x 7 []]]:List SV).length Tryz.f11.ntmps=true:=by kernel_rfl
theorem zLv(c:Cir)(hc:c.ok)(p:Pln)(hp:p.ok)(k:Int)(Q:SV→List HO→Prop)(hq:Q (.v (.int .i64 (yT c k p))) []):qI Tryz.prog 11 [.agg [.v (.int .i64 c.fx),.v (.int .i64 c.ad),.v (.int .i64 c.ins),.x 0 [],.x 1 [],.x 2 [],.x 3 []],.v (.int .i64 k),.agg [.x 4 [],.x 5 [],.x 6 [],.x 7 []]] [.ext false (.s false 7 c.4.length (cN c.4)),.ext false (.s false 1 c.5.length (cI c.5)),.ext false (.s false 2 c.6.length (cL c.6)),.ext false (.s false 2 c.7.length (cK c.7)),.ext false (.s false 2 p.1.length (cRg p.1)),.ext false (.s false 2 p.2.length (cTa p.2)),.ext false (.s false 6 p.3.length (cLk p.3)),.ext false (.s false 1 p.4.length (cT p.4))] Q:=by
 refine qL Tryz.func11 zWo (zXl c k) ?_
 refine qC hm 60 ((zYc c p k _ _).mpr ⟨?_⟩)
 rw[yT] at hq
 refine qBt c hc ?_
 rw[qV,zC]
 refine qG (fun h0=>?_) (fun h0=>by rw[if_pos h0] at hq; exact hq)
 rw[if_neg (fun h=>h h0)] at hq
 rw[qD,qD]
 refine qG (fun h1=>by rw[if_pos h1] at hq; exact hq) (fun h1=>qG (fun h2=>by rw[if_neg h1,if_pos h2] at hq; exact hq) (fun h2=>?_))
 rw[if_neg h1,if_neg h2] at hq
 have hF:¬ wB c p (usN k)=true→Q (SV.v (qA (140:Int))) []:=fun hn=>by
  have:wB c p (usN k)=false:=by simpa using hn
  rw[this] at hq; exact hq
 have hT:wB c p (usN k)=true→Q (SV.v (qA (0:Int))) []:=fun h=>by rw[h] at hq; exact hq
 rw[qXk] at hF hT
 refine qJ (fun h=>hF fun hs=>by have:=of_decide_eq_true h; omega) (fun g1=>?_)
 refine qJ (fun h=>hF fun hs=>by have:=of_decide_eq_true h; omega) (fun g2=>?_)
 have g1:=of_decide_eq_false g1
 have g2:=of_decide_eq_false g2
 rw[qV,zC]
 refine qG (fun g3=>?_) (fun g3=>hF fun hs=>g3 hs.2.2.1)
 refine FOk.loop (p.rg.length+1) (by kernel_rfl) (qOt c hc p hp k Q (fun f1=>?_) (fun hn=>hF fun hs=>hn hs.2.2.2.1) p.rg.length 0 (by omega) (fun x hx=>by rw[List.take_zero] at hx; cases hx))
 refine FOk.loop (p.tb.length+1) (by kernel_rfl) (qOo c p hp k Q (fun f2=>?_) (fun hn=>hF fun hs=>hn hs.2.2.2.2.1) p.tb.length 0 (by omega) (fun x hx=>by rw[List.take_zero] at hx; cases hx) (by rw[List.take_zero]; exact List.Pairwise.nil))
 refine FOk.loop (p.lk.length+1) (by kernel_rfl) (qOj c hc p hp k Q (fun f3=>?_) (fun hn=>hF fun hs=>hn hs.2.2.2.2.2.1) p.lk.length 0 (by omega) (fun x hx=>by rw[List.take_zero] at hx; cases hx))
 refine FOk.loop (p.is.length+1) (by kernel_rfl) (qPu c hc p hp k Q (fun f4=>?_) (fun hn=>hF fun hs=>hn hs.2.2.2.2.2.2) p.is.length 0 (by omega) (fun x hx=>by rw[List.take_zero] at hx; cases hx))
 exact hT ⟨by omega,by omega,g3,f1,f2,f3,f4⟩
noncomputable def zKk:List SV→List HO→Option ((SV→List HO→Prop)→Prop)
 | [.agg [.v (.int .i64 fx),.v (.int .i64 ad),.v (.int .i64 ins),.x 0 [],.x 1 [],.x 2 [],.x 3 []],.v (.int .i64 k),.agg [.x 4 [],.x 5 [],.x 6 [],.x 7 []]],[.ext false (.s false 7 n0 c0),.ext false (.s false 1 n1 c1),.ext false (.s false 2 n2 c2),.ext false (.s false 2 n3 c3),.ext false (.s false 2 m0 d0),.ext false (.s false 2 m1 d1),.ext false (.s false 6 m2 d2),.ext false (.s false 1 m3 d3)] =>
  some fun Q=>lSh fx ad ins n0 n1 n2 n3 m0 m1 m2 m3 c0 c1 c2 c3 d0 d1 d2 d3 fun c p=>Q (.v (.int .i64 (yT c k p))) []
 | _,_=>none
theorem zGn(args:List SV)(h:List HO)(tr:(SV→List HO→Prop)→Prop)(Q:SV→List HO→Prop)(hc:zKk args h=some tr)(ht:tr Q):qI Tryz.prog 11 args h Q:=by
 unfold zKk at hc
 split at hc
 ·simp only[sI] at hc
  subst hc
  obtain⟨c,rfl,rfl,rfl,⟨rfl,e0⟩,⟨rfl,e1⟩,⟨rfl,e2⟩,⟨rfl,e3⟩,hk,ht2⟩:=ht.h.h
  obtain⟨p,⟨rfl,e4⟩,⟨rfl,e5⟩,⟨rfl,e6⟩,⟨rfl,e7⟩,hp,hq⟩:=ht2.h
  exact qI.ac (zLv c hk p hp _ Q hq) ⟨⟨rfl,rfl,rfl,rfl,e0⟩,⟨rfl,rfl,rfl,rfl,e1⟩,⟨rfl,rfl,rfl,rfl,e2⟩,⟨rfl,rfl,rfl,rfl,e3⟩,⟨rfl,rfl,rfl,rfl,e4⟩,⟨rfl,rfl,rfl,rfl,e5⟩,⟨rfl,rfl,rfl,rfl,e6⟩,⟨rfl,rfl,rfl,rfl,e7⟩,trivial⟩
 ·cases hc
noncomputable def zQo:Con Tryz.prog:=qWt.add 11 zKk zGn
end Go.Proofs.YtlmjdcbhpffanaaGreat
/- Tables as own rows of own rows. -/
namespace Go.Pl
open Go.Sx
theorem zFx(l:List (List Nat))(k:Nat):qGf (tC l) k (gT l k).length (Ct.at (.fn (cE (gT l k))))=tC l:=by
 funext q
 by_cases h:q=k
 ·subst h; rw[qQv]; rfl
 ·rw[qQo _ _ _ _ h]
end Go.Pl
namespace Go.Proofs.YtlmjdcbhpffanaaGreat
open Go.Sx Go.Pl
set_option linter.unusedVariables false
set_option maxRecDepth 100000
theorem toS(l:List (List Nat))(K:List It→St→Prop)(R:SV→List HO→Prop):W (xwp Tryz.prog X K57 [] 60 (qO Tryz.f35 [] [⟨[0,1,0,1,1],[4,3,0],[]⟩]) [] [.at []] ⟨qQ 0 [.x 0 []],[.ext false (.s false 1 l.length (cT l))]⟩ K R)=W (K [.at [0,1,0,1,1],.blk 0,.at [1,1,1]] (St.mk [(4,.v (qA 0)),(3,.o 0),(0,.x 1 [])] [.rowc 67 1 0 (.lit 1 []),.ext false (.s false 1 l.length (cT l))])):=by kernel_rfl
theorem toR(l:List (List Nat))(c:Nat→Nat×(Nat→Nat→qB))(m k M:Nat)(K:List It→St→Prop)(R:SV→List HO→Prop):W (xwp Tryz.prog X K57 [] 60 (qO Tryz.f35 [] [⟨[0,1,0,1,1],[4,3,0],[]⟩]) [] (.at [0,0,1,0,1,1]::.rnd [0,0,1,0,1,1] M::[.blk 0,.at [1,1,1]]) ⟨[(4,.v (.int .i64 (k:Int))),(3,.o 0),(0,.x 1 [])],[.tbl 67 53 4 m c none,.ext false (.s false 1 l.length (cT l))]⟩ K R)=W (bif decide ((↑k:Int)<(↑l.length:Int)) then(∀ M:Mem,(0:Int)≤(↑k:Int)∧(↑k:Int)<(↑l.length:Int))∧(∀ M:Mem,k<List.length l)∧(∀ M:Mem,k<List.length l)∧lE (List.length (gT l k)) (cE (gT l k)) fun(l_1:List Nat)=>(∀ M:Mem,(m+1)*24≤140737488355328∧m+1≤140737488355328)∧K [.rnd [0,0,1,0,1,1] M,.blk 0,.at [1,1,1]] (St.mk [(4,.v (qA (IntKind.wrap .i64 ((↑k:Int)+(1:Int))))),(3,.o 0),(0,.x 1 [])] [HO.tbl 67 53 4 (m+1) c (some (m,2)),.ext false (.s false 1 l.length (cT l)),.rowc 53 4 l_1.length (.fn (cE l_1))]) else R (.o 0) [HO.tbl 67 53 4 m c none]):=by kernel_rfl
theorem qZn(l:List (List Nat))(hl:okT l)(Q:SV→List HO→Prop)(hq:Q (.o 0) [.tbl 67 53 4 l.length (tC l) none]):∀(d k:Nat),k+d=l.length →
  FOk Tryz.prog Tryz.f35 Q (.rnd [0,0,1,0,1,1] (d+1)::[.blk 0,.at [1,1,1]]) ⟨[(4,.v (.int .i64 (k:Int))),(3,.o 0),(0,.x 1 [])],[.tbl 67 53 4 k (tC l) none,.ext false (.s false 1 l.length (cT l))]⟩
 | 0,k,hd=>by
  refine FOk.rnd (qC hm 60 ((toR l (tC l) k k 0 _ _).mpr ⟨?_⟩))
  rw[qD,if_neg (by omega)]
  rw[show k=l.length by omega]
  exact hq
 | d+1,k,hd=>by
  have hk:k<l.length:=by omega
  have h1:=hl.2
  obtain⟨g0,g1⟩:=hl.1 _ (qKu hk)
  refine FOk.rnd (qC hm 60 ((toR l (tC l) k k (d+1) _ _).mpr ⟨?_⟩))
  rw[qD,if_pos (by omega),qK _ (by omega)]
  refine aI (aI (And.intro (fun _=>by omega) ⟨⟨gT l k,rfl,IsC.refl _ _ _,by omega,g0,And.intro (fun _=>by omega) ?_⟩⟩))
  refine FOk.unfocus 0 2 k rfl rfl (by omega) ?_
  rw[zFx]
  exact FOk.norm (ks:=[4,3,0]) (nl:=[]) (st':=⟨[(4,.v (.int .i64 ((k+1:Nat):Int))),(3,.o 0),(0,.x 1 [])],[.tbl 67 53 4 (k+1) (tC l) none,.ext false (.s false 1 l.length (cT l))]⟩) (by kernel_rfl) (qZn l hl Q hq d (k+1) (by omega))
theorem bTo:Tryz.f35.body.isSome=true:=by kernel_rfl
theorem nTo:Nat.ble [SV.x 0 []].length Tryz.f35.ntmps=true:=by kernel_rfl
theorem zSh(l:List (List Nat))(hl:okT l)(Q:SV→List HO→Prop)(hq:Q (.o 0) [.tbl 67 53 4 l.length (tC l) none]):qI Tryz.prog 35 [.x 0 []] [.ext false (.s false 1 l.length (cT l))] Q:=by
 refine qL Tryz.func35 bTo ?_ ?_
 ·exact nTo
 refine qC hm 60 ((toS l _ _).mpr ⟨?_⟩)
 refine FOk.newT 0 53 4 (tC l) rfl ?_
 exact FOk.loop (l.length+1) (by kernel_rfl) (qZn l hl Q hq l.length 0 (by omega))
noncomputable def gTo:List SV→List HO→Option ((SV→List HO→Prop)→Prop)
 | [.x 0 []],[.ext false (.s false 1 n c)]=>some fun Q=>lT n c fun l=>Q (.o 0) [.tbl 67 53 4 l.length (tC l) none]
 | _,_=>none
theorem zNj(args:List SV)(h:List HO)(tr:(SV→List HO→Prop)→Prop)(Q:SV→List HO→Prop)(hc:gTo args h=some tr)(ht:tr Q):qI Tryz.prog 35 args h Q:=by
 unfold gTo at hc
 split at hc
 ·simp only[sI] at hc
  subst hc
  obtain⟨l,rfl,he,hl,hq⟩:=ht.h
  exact qI.ac (zSh l hl Q hq) ⟨⟨rfl,rfl,rfl,rfl,he⟩,trivial⟩
 ·cases hc
noncomputable def zSx:Con Tryz.prog:=zQo.add 35 gTo zNj
end Go.Proofs.YtlmjdcbhpffanaaGreat
/- The document: a value put into a column. -/
namespace Go.Proofs.YtlmjdcbhpffanaaGreat
open Go.Sx Go.Pl
set_option linter.unusedVariables false
set_option maxRecDepth 100000
theorem zXk(l:List (List Nat))(co ro:Int)(v:Nat)(K:List It→St→Prop)(R:SV→List HO→Prop):W (xwp Tryz.prog X zSx [] 60 (qO Tryz.f48 [] [⟨[0,0,1,1],[9,7,1,2],[]⟩]) [] [.at []] ⟨qQ 0 [.x 0 [],.v (.int .i64 co),.v (.int .i64 ro),.agg [.v (.int .u64 (qF v 0:Nat)),.v (.int .u64 (qF v 1:Nat)),.v (.int .u64 (qF v 2:Nat)),.v (.int .u64 (qF v 3:Nat))]],[.ext false (.s false 1 l.length (cT l))]⟩ K R)=W (lT l.length (cT l) fun(l:List (List Nat))=>K [.at [0,0,1,1],.blk 0,.at [1,1,1]] (St.mk [(9,.o 0),(7,.p 1 0),(1,.v (qA co)),(2,.v (qA ro))] [HO.tbl 67 53 4 l.length (tC l) none,.cells [.v (qE (↑(qF v 0):Int)),.v (qE (↑(qF v 1):Int)),.v (qE (↑(qF v 2):Int)),.v (qE (↑(qF v 3):Int))] 53])):=by kernel_rfl
theorem zQr(l:List (List Nat))(co ro:Int)(v:Nat)(x:List Nat)(n M:Nat)(K:List It→St→Prop)(R:SV→List HO→Prop):W (xwp Tryz.prog X zSx [] 60 (qO Tryz.f48 [] [⟨[0,0,1,1],[9,7,1,2],[]⟩]) [] (.at [0,0,0,1,1]::.rnd [0,0,0,1,1] M::[.blk 0,.at [1,1,1]]) ⟨[(9,.o 0),(7,.p 1 0),(1,.v (.int .i64 co)),(2,.v (.int .i64 ro))],[.tbl 67 53 4 l.length (tC l) (some (co.toNat,2)),.cells [.v (.int .u64 (qF v 0:Nat)),.v (.int .u64 (qF v 1:Nat)),.v (.int .u64 (qF v 2:Nat)),.v (.int .u64 (qF v 3:Nat))] 53,.rowc 53 4 n (.fn (cE x))]⟩ K R)=W ((∀ M:Mem,(0:Int)≤co∧co<(↑l.length:Int))∧(∀ M:Mem,Int.toNat co<List.length l)∧(∀ M:Mem,Int.toNat co=Int.toNat co)∧bif decide ((↑n:Int)≤ro) then(∀ M:Mem,(0:Int)≤co∧co<(↑l.length:Int))∧(∀ M:Mem,Int.toNat co<List.length l)∧(∀ M:Mem,Int.toNat co=Int.toNat co)∧(∀ M:Mem,(n+1)*32≤140737488355328∧n+1≤140737488355328)∧(∀ M:Mem,(0:Int)≤co∧co<(↑l.length:Int))∧(∀ M:Mem,Int.toNat co<List.length l)∧(∀ M:Mem,Int.toNat co=Int.toNat co)∧K [.rnd [0,0,0,1,1] M,.blk 0,.at [1,1,1]] (St.mk [(9,.o 0),(7,.p 1 0),(1,.v (qA co)),(2,.v (qA ro))] [HO.tbl 67 53 4 l.length (tC l) (some (Int.toNat co,2)),.cells [.v (qE (↑(qF v 0):Int)),.v (qE (↑(qF v 1):Int)),.v (qE (↑(qF v 2):Int)),.v (qE (↑(qF v 3):Int))] 53,.rowc 53 4 (n+1) (.app n (.fn (cE x)) (.lit 4 [.v (qE 0),.v (qE 0),.v (qE 0),.v (qE 0)]))]) else(∀ M:Mem,(0:Int)≤co∧co<(↑l.length:Int))∧(∀ M:Mem,Int.toNat co<List.length l)∧(∀ M:Mem,Int.toNat co=Int.toNat co)∧(∀ M:Mem,(0:Int)≤ro∧ro<(↑n:Int))∧(∀ M:Mem,Int.toNat ro<n)∧R (.o 0) [HO.tbl 67 53 4 l.length (tC l) (some (Int.toNat co,1)),.rowc 53 4 n (.upd (.fn (cE x)) (Int.toNat ro) 0 [.v (qE (↑(qF v 0):Int)),.v (qE (↑(qF v 1):Int)),.v (qE (↑(qF v 2):Int)),.v (qE (↑(qF v 3):Int))])]):=by kernel_rfl
theorem qUb(l:List (List Nat))(co ro:Int)(v:Nat)(hlb:l.length*24≤140737488351232)(hco:0≤co∧co<(l.length:Int))(hr:0≤ro∧ro≤1000000)(Q:SV→List HO→Prop):∀(d:Nat) (x:List Nat),ro.toNat+1≤x.length+d→x.length≤2000000→(∀ h',HEs h' [.tbl 67 53 4 l.length (tC l) (some (co.toNat,1)),.rowc 53 4 (zJ x ro.toNat v).length (.fn (cE (zJ x ro.toNat v)))]→Q (.o 0) h') →
  FOk Tryz.prog Tryz.f48 Q (.rnd [0,0,0,1,1] (d+1)::[.blk 0,.at [1,1,1]]) ⟨[(9,.o 0),(7,.p 1 0),(1,.v (.int .i64 co)),(2,.v (.int .i64 ro))],[.tbl 67 53 4 l.length (tC l) (some (co.toNat,2)),.cells [.v (.int .u64 (qF v 0:Nat)),.v (.int .u64 (qF v 1:Nat)),.v (.int .u64 (qF v 2:Nat)),.v (.int .u64 (qF v 3:Nat))] 53,.rowc 53 4 x.length (.fn (cE x))]⟩
 | 0,x,hd,hl,hq=>by
  refine FOk.rnd (qC hm 60 ((zQr l co ro v x x.length 0 _ _).mpr ⟨?_⟩))
  repeat' (first | refine And.intro (fun _=>rfl) ?_ | refine And.intro (fun _=>by omega) ?_)
  rw[qD,if_neg (by omega)]
  repeat' (first | refine And.intro (fun _=>rfl) ?_ | refine And.intro (fun _=>by omega) ?_)
  refine hq _ ?_
  have h1:ro.toNat<x.length:=by omega
  rw[qJs h1,List.length_set]
  exact⟨HE.refl _,⟨rfl,rfl,rfl,qRi x ro.toNat v h1⟩,trivial⟩
 | d+1,x,hd,hl,hq=>by
  refine FOk.rnd (qC hm 60 ((zQr l co ro v x x.length (d+1) _ _).mpr ⟨?_⟩))
  repeat' (first | refine And.intro (fun _=>rfl) ?_ | refine And.intro (fun _=>by omega) ?_)
  rw[qD]
  refine qG (fun h=>?_) (fun h=>?_)
  ·repeat' (first | refine And.intro (fun _=>rfl) ?_ | refine And.intro (fun _=>by omega) ?_)
   have ih:=qUb l co ro v hlb hco hr Q d (x++[0]) (by rw[List.length_append,List.length_singleton]; omega) (by rw[List.length_append,List.length_singleton]; omega) (by rw[qIa (by omega)]; exact hq)
   rw[zBr]
   exact FOk.cv ih ⟨HE.refl _,HE.refl _,⟨rfl,rfl,by rw[List.length_append]; rfl,qQw 0 rfl⟩,trivial⟩
  ·repeat' (first | refine And.intro (fun _=>rfl) ?_ | refine And.intro (fun _=>by omega) ?_)
   refine hq _ ?_
   have h1:ro.toNat<x.length:=by omega
   rw[qJs h1,List.length_set]
   exact⟨HE.refl _,⟨rfl,rfl,rfl,qRi x ro.toNat v h1⟩,trivial⟩
theorem zXw:Tryz.f48.body.isSome=true:=by kernel_rfl
theorem zYz(co ro:Int)(v:Nat):Nat.ble ([.x 0 [],.v (.int .i64 co),.v (.int .i64 ro),.agg [.v (.int .u64 (qF v 0:Nat)),.v (.int .u64 (qF v 1:Nat)),.v (.int .u64 (qF v 2:Nat)),.v (.int .u64 (qF v 3:Nat))]]:List SV).length Tryz.f48.ntmps=true:=by kernel_rfl
theorem zKj(l:List (List Nat))(co ro:Int)(v:Nat)(hl:okT l)(hco:0≤co∧co<(l.length:Int))(hr:0≤ro∧ro≤1000000)(hb:(gT l co.toNat).length≤1000000)(Q:SV→List HO→Prop)(hq:Q (.o 0) [.tbl 67 53 4 l.length (tC l) (some (co.toNat,1)),.rowc 53 4 (zJ (gT l co.toNat) ro.toNat v).length (.fn (cE (zJ (gT l co.toNat) ro.toNat v)))]):qI Tryz.prog 48 [.x 0 [],.v (.int .i64 co),.v (.int .i64 ro),.agg [.v (.int .u64 (qF v 0:Nat)),.v (.int .u64 (qF v 1:Nat)),.v (.int .u64 (qF v 2:Nat)),.v (.int .u64 (qF v 3:Nat))]] [.ext false (.s false 1 l.length (cT l))] Q:=by
 refine qI.mono (qI.eqv (r0:=.o 0) (h0:=[.tbl 67 53 4 l.length (tC l) (some (co.toNat,1)),.rowc 53 4 (zJ (gT l co.toNat) ro.toNat v).length (.fn (cE (zJ (gT l co.toNat) ro.toNat v)))]) ?_) (fun r h' hh=>by rw[hh.1,hh.2]; exact hq)
 refine qL Tryz.func48 zXw (zYz co ro v) ?_
 refine qC hm 60 ((zXk l co ro v _ _).mpr ⟨?_⟩)
 refine qDe hl ?_
 refine FOk.focus 0 co.toNat rfl (by omega) ?_
 exact FOk.loop (ro.toNat+2) (by kernel_rfl) (qUb l co ro v hl.2 hco hr (fun r h'=>r=.o 0∧HEs h' [.tbl 67 53 4 l.length (tC l) (some (co.toNat,1)),.rowc 53 4 (zJ (gT l co.toNat) ro.toNat v).length (.fn (cE (zJ (gT l co.toNat) ro.toNat v)))]) (ro.toNat+1) (gT l co.toNat) (by omega) (by omega) fun h' hh=>⟨rfl,hh⟩)
end Go.Proofs.YtlmjdcbhpffanaaGreat
namespace Go.Pl
open Go.Sx
structure zFj (n:Nat) (c:Nat→Nat→qB) (co ro:Int) (ds:List Int) (k:List (List Nat)→Nat→Prop):Prop where
 h:∃(l:List (List Nat)) (v:Nat),n=l.length∧IsC n 1 c (cT l)∧okT l∧ds=eI v∧(0≤co∧co<(l.length:Int))∧(0≤ro∧ro≤1000000)∧(gT l co.toNat).length≤1000000∧k l v
theorem qYv{l:List (List Nat)}(hl:okT l){co ro:Int}{v:Nat}(h1:0≤co∧co<(l.length:Int))(h2:0≤ro∧ro≤1000000)(h3:(gT l co.toNat).length≤1000000){k:List (List Nat)→Nat→Prop}(hk:k l v):zFj l.length (cT l) co ro (eI v) k:=⟨⟨l,v,rfl,IsC.refl _ _ _,hl,rfl,h1,h2,h3,hk⟩⟩
end Go.Pl
namespace Go.Proofs.YtlmjdcbhpffanaaGreat
open Go.Sx Go.Pl
set_option linter.unusedVariables false
set_option maxRecDepth 100000
noncomputable def zNk:List SV→List HO→Option ((SV→List HO→Prop)→Prop)
 | [.x 0 [],.v (.int .i64 co),.v (.int .i64 ro),.agg [.v (.int .u64 v0),.v (.int .u64 v1),.v (.int .u64 v2),.v (.int .u64 v3)]],[.ext false (.s false 1 n c)]=>some fun Q=>zFj n c co ro [v0,v1,v2,v3] fun l v=>Q (.o 0) [.tbl 67 53 4 l.length (tC l) (some (co.toNat,1)),.rowc 53 4 (zJ (gT l co.toNat) ro.toNat v).length (.fn (cE (zJ (gT l co.toNat) ro.toNat v)))]
 | _,_=>none
theorem zGw(args:List SV)(h:List HO)(tr:(SV→List HO→Prop)→Prop)(Q:SV→List HO→Prop)(hc:zNk args h=some tr)(ht:tr Q):qI Tryz.prog 48 args h Q:=by
 unfold zNk at hc
 split at hc
 ·simp only[sI] at hc
  subst hc
  obtain⟨l,v,rfl,he,hl,hds,h0,h1,h2,hq⟩:=ht.h
  simp only[List.cons.injEq,and_true] at hds
  obtain⟨rfl,rfl,rfl,rfl⟩:=hds
  exact qI.ac (zKj l _ _ v hl h0 h1 h2 Q hq) ⟨⟨rfl,rfl,rfl,rfl,he⟩,trivial⟩
 ·cases hc
noncomputable def qUf:Con Tryz.prog:=zQo.add 48 zNk zGw
end Go.Proofs.YtlmjdcbhpffanaaGreat
