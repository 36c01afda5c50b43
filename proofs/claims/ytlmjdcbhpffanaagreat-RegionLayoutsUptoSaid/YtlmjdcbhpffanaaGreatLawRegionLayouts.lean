/- The law RegionLayouts holds: every Check and Layout answers what the document says; what is handed in is left as it was. -/
import Derived.Test.YtlmjdcbhpffanaaGreatRows
import Derived.Test.YtlmjdcbhpffanaaGreatM1
import Derived.Test.YtlmjdcbhpffanaaGreatM5
import Derived.Deep.CondSized
import Derived.WideKeyArgs
namespace Go.Proofs.YtlmjdcbhpffanaaGreat
open Go.ChangeShapes Go.WideShapes Go.ChangeAt Go.RowKit Go.Sx Go.Pl
set_option linter.unusedVariables false
set_option maxRecDepth 100000
theorem zCx:ownKnob Tryz.prog.godebug=none:=by kernel_rfl
theorem qVz{B:Nat}{W W':World}(h:Below B W W'){p:MemPlace}(hp:p.block<B):W.sameAt W' p:=by
 cases p with
 | cell b off =>
  show W'.cell? ⟨b,off,none⟩=W.cell? ⟨b,off,none⟩
  unfold World.cell?
  rw[h.block b hp]
 | map b=>exact h.block b hp
theorem zWk:laidOutB Tryz.prog=true:=by kernel_rfl
theorem zCc{H:Type}{enc:TypeId×Value→H}{t:TypeId}(hr:Tryz.prog.readableRec t=true)(ht:t<Tryz.prog.types.size){W W':World}{sp':Nat→Bool}{v:Value}{d:DataW H}{ps:List MemPlace}(h:DataW.Trod enc Tryz.prog W 0 (fun _=>true) true t v d ps)(hb:Below W.heap.size W W')(hlt:∀ p∈ps,p.block<W.heap.size)(hs:∀ p∈ps,sp' p.block=true):DataW.Trod enc Tryz.prog W' 0 sp' true t v d ps :=
 Go.WideElems.Trod_stays zWk hr ht h (fun p hp=>qVz hb (hlt p hp)) hs
theorem qKy{w:World}{r:Reach}{b0:Nat}{t:TypeId}{v:Value}(ht:(match Tryz.prog.underlying t with | some (.struct _)=>true | some (.array _ _)=>true | _=>false)=true)(h:Value.okWide Tryz.prog w r b0 t v):∃ cs,v=.agg cs∧cs.size=Tryz.prog.cellsOf t:=by
 unfold Value.okWide at h
 split at h
 ·obtain⟨cs,h1,h2,_⟩:=h; exact⟨cs,h1,h2⟩
 ·obtain⟨cs,h1,h2,_⟩:=h; exact⟨cs,h1,h2⟩
 ·rename_i h1 h2
  split at ht
  ·rename_i fs hu; exact absurd hu (h1 fs)
  ·rename_i n e hu; exact absurd hu (h2 n e)
  ·cases ht
theorem qGw{M:Mem}{u x:Value}(h:yV M u (.v x)):u=x:=by
 obtain⟨f,_,h1,h2⟩:=h
 exact h1.symm.trans h2
theorem qDk(os:Os)(started:os.Started)(H:Type)(enc:TypeId×Value→H)(F:Stop.Interp):
  ReturnsInHanded {} Tryz.checked os 3 .any ((Rows.OpenSpec.upto Rows.regionLayoutsSpec).pre6 enc Tryz.prog Tryz.f3 Rows.regionLayoutsUptoRow.domain false) (((Rows.OpenSpec.upto Rows.regionLayoutsSpec).at F).post enc Tryz.prog Tryz.f3 false true false false):=by
 refine returnsInHanded_of_cond_sized (C:=Tryz.checked) (k:=Rows.uptoSmall) rfl zCx started (by kernel_rfl) Tryz.func3
  (OpenSpec.witness (enc:=enc) (C:=Tryz.checked) (k:=Rows.uptoSmall) rfl false ⟨#[],#[.agg #[.int .i64 0,.int .i64 0,.int .i64 0,.slice none 0 0,.slice none 0 0,.slice none 0 0,.slice none 0 0],.int .i64 0,.agg #[.slice none 0 0,.slice none 0 0,.slice none 0 0,.slice none 0 0]],[]⟩ 8 (by kernel_rfl) (by kernel_rfl) (by kernel_rfl) (x:=Option.get (DataW.whole enc Tryz.checked.prog (World.plainHolding Tryz.checked.prog os ⟨#[],#[.agg #[.int .i64 0,.int .i64 0,.int .i64 0,.slice none 0 0,.slice none 0 0,.slice none 0 0,.slice none 0 0],.int .i64 0,.agg #[.slice none 0 0,.slice none 0 0,.slice none 0 0,.slice none 0 0]],[]⟩).memory Tryz.f3.params.toList (Rows.OpenSpec.upto Rows.regionLayoutsSpec).vars false [.agg #[.int .i64 0,.int .i64 0,.int .i64 0,.slice none 0 0,.slice none 0 0,.slice none 0 0,.slice none 0 0],.int .i64 0,.agg #[.slice none 0 0,.slice none 0 0,.slice none 0 0,.slice none 0 0]] 8) (by kernel_rfl)) (Option.some_get _).symm (by kernel_rfl) (by kernel_rfl)) ?_
 intro W base args ds gs before hval0 hW hcnd _ hsz0 _
 have hW':=hW
 have hlt:∀ p∈before,p.block<W.heap.size:=fun p hp=>hW.lt p hp
 obtain⟨p,q,hA0,hV,rfl,hfz,hnd⟩:=hW
 have hA:DataW.TrodAll enc Tryz.prog W 0 (fun _=>true) true Tryz.f3.params.toList args.toList ds p:=hA0
 have hval:∀(j:Nat) t v,Tryz.f3.params[j]?=some t→args[j]?=some v→Value.okWide Tryz.prog W .any base t v:=hval0
 have hsz:(DataW.weightsEach Tryz.prog (Tryz.f3.params.toList++(Rows.OpenSpec.upto Rows.regionLayoutsSpec).bare.plain.varTypes Tryz.prog) (ds++gs)).all (·≤reachBytes)=true:=hsz0
 rw[Tryz.params3] at hA hval hsz
 obtain⟨v1,vs1,d1,ds1,p1,q1,ha1,rfl,rfl,h1,hA1⟩:=trodAll_cons hA
 obtain⟨v2,vs2,d2,ds2,p2,q2,rfl,rfl,rfl,h2,hA2⟩:=trodAll_cons hA1
 obtain⟨v3,vs3,d3,ds3,p3,q3,rfl,rfl,rfl,h3,hA3⟩:=trodAll_cons hA2
 obtain⟨rfl,rfl,rfl⟩:=trodAll_nil hA3
 obtain rfl:args=#[v1,v2,v3]:=by cases args; simp_all
 obtain⟨rfl,rfl⟩:=trodVars_none hV
 have hws:=fun x hx=>of_decide_eq_true (List.all_eq_true.1 hsz x hx)
 have w1:wOk Tryz.prog 27 d1:=fun x hx=>hws x (DataW.weights_mem_each (j:=0) rfl rfl x hx)
 have w2:wOk Tryz.prog 3 d2:=fun x hx=>hws x (DataW.weights_mem_each (j:=1) rfl rfl x hx)
 have w3:wOk Tryz.prog 33 d3:=fun x hx=>hws x (DataW.weights_mem_each (j:=2) rfl rfl x hx)
 obtain⟨cs1,e1,hs1⟩:=qKy (by kernel_rfl) (hval 0 27 v1 rfl rfl)
 subst e1
 obtain⟨x1,ok1,r1⟩:=zPx.argN h1 w1 hs1
 obtain⟨u1_0,g1_0,r1_0⟩:=r1 0 (by omega)
 have:=qGw r1_0
 subst this
 obtain⟨u1_1,g1_1,r1_1⟩:=r1 1 (by omega)
 have:=qGw r1_1
 subst this
 obtain⟨u1_2,g1_2,r1_2⟩:=r1 2 (by omega)
 have:=qGw r1_2
 subst this
 obtain⟨u1_3,g1_3,r1_3⟩:=r1 3 (by omega)
 obtain⟨u1_4,g1_4,r1_4⟩:=r1 4 (by omega)
 obtain⟨u1_5,g1_5,r1_5⟩:=r1 5 (by omega)
 obtain⟨u1_6,g1_6,r1_6⟩:=r1 6 (by omega)
 have hc1:cs1=#[.int .i64 x1.fx,.int .i64 x1.ad,.int .i64 x1.ins,u1_3,u1_4,u1_5,u1_6]:=by
  rw[c27] at hs1
  refine Array.ext hs1 fun j hj _=>?_
  rw[hs1] at hj
  match j,hj with
  | 0,_=>exact Option.some.inj ((Array.getElem?_eq_getElem (by omega)).symm.trans g1_0)
  | 1,_=>exact Option.some.inj ((Array.getElem?_eq_getElem (by omega)).symm.trans g1_1)
  | 2,_=>exact Option.some.inj ((Array.getElem?_eq_getElem (by omega)).symm.trans g1_2)
  | 3,_=>exact Option.some.inj ((Array.getElem?_eq_getElem (by omega)).symm.trans g1_3)
  | 4,_=>exact Option.some.inj ((Array.getElem?_eq_getElem (by omega)).symm.trans g1_4)
  | 5,_=>exact Option.some.inj ((Array.getElem?_eq_getElem (by omega)).symm.trans g1_5)
  | 6,_=>exact Option.some.inj ((Array.getElem?_eq_getElem (by omega)).symm.trans g1_6)
 subst hc1
 obtain⟨x2,e2⟩:=okWide_int u3 (hval 1 3 v2 rfl rfl)
 subst e2
 obtain⟨y2,ok2,r2⟩:=wA.arg1 h2 w2 rfl
 have e2:=qGw r2
 simp only[Value.int.injEq,true_and] at e2
 rw[← e2] at ok2
 obtain⟨cs3,e3,hs3⟩:=qKy (by kernel_rfl) (hval 2 33 v3 rfl rfl)
 subst e3
 obtain⟨x3,ok3,r3⟩:=zQj.argN h3 w3 hs3
 obtain⟨u3_0,g3_0,r3_0⟩:=r3 0 (by omega)
 obtain⟨u3_1,g3_1,r3_1⟩:=r3 1 (by omega)
 obtain⟨u3_2,g3_2,r3_2⟩:=r3 2 (by omega)
 obtain⟨u3_3,g3_3,r3_3⟩:=r3 3 (by omega)
 have hc3:cs3=#[u3_0,u3_1,u3_2,u3_3]:=by
  rw[c33] at hs3
  refine Array.ext hs3 fun j hj _=>?_
  rw[hs3] at hj
  match j,hj with
  | 0,_=>exact Option.some.inj ((Array.getElem?_eq_getElem (by omega)).symm.trans g3_0)
  | 1,_=>exact Option.some.inj ((Array.getElem?_eq_getElem (by omega)).symm.trans g3_1)
  | 2,_=>exact Option.some.inj ((Array.getElem?_eq_getElem (by omega)).symm.trans g3_2)
  | 3,_=>exact Option.some.inj ((Array.getElem?_eq_getElem (by omega)).symm.trans g3_3)
 subst hc3
 clear hA0 hval0 hsz0 hsz
 simp only[List.append_nil] at hW' hlt
 have hrep:∀(i:Nat) u c,([u1_3,u1_4,u1_5,u1_6,u3_0,u3_1,u3_2,u3_3]:List Value)[i]?=some u→([.s false 7 x1.nodes.length (cN x1.nodes),.s false 1 x1.gates.length (cI x1.gates),.s false 2 x1.looks.length (cL x1.looks),.s false 2 x1.eqs.length (cK x1.eqs),.s false 2 x3.rg.length (cRg x3.rg),.s false 2 x3.tb.length (cTa x3.tb),.s false 6 x3.lk.length (cLk x3.lk),.s false 1 x3.is.length (cT x3.is)]:List qB)[i]?=some c→yV (xD W) u c:=by
  intro i u c hu hc
  match i with
  | 0=>cases hu; cases hc; exact r1_3
  | 1=>cases hu; cases hc; exact r1_4
  | 2=>cases hu; cases hc; exact r1_5
  | 3=>cases hu; cases hc; exact r1_6
  | 4=>cases hu; cases hc; exact r3_0
  | 5=>cases hu; cases hc; exact r3_1
  | 6=>cases hu; cases hc; exact r3_2
  | 7=>cases hu; cases hc; exact r3_3
  | m+8=>cases hu
 refine(zDh (P:=Tryz.prog) (f:=3) (args:=[.agg [.v (.int .i64 x1.fx),.v (.int .i64 x1.ad),.v (.int .i64 x1.ins),.x 0 [],.x 1 [],.x 2 [],.x 3 []],.v (.int .i64 x2),.agg [.x 4 [],.x 5 [],.x 6 [],.x 7 []]]) [.s false 7 x1.nodes.length (cN x1.nodes),.s false 1 x1.gates.length (cI x1.gates),.s false 2 x1.looks.length (cL x1.looks),.s false 2 x1.eqs.length (cK x1.eqs),.s false 2 x3.rg.length (cRg x3.rg),.s false 2 x3.tb.length (cTa x3.tb),.s false 6 x3.lk.length (cLk x3.lk),.s false 1 x3.is.length (cT x3.is)] [u1_3,u1_4,u1_5,u1_6,u3_0,u3_1,u3_2,u3_3] rfl hrep (by simp [wsL,ws]) (qHu x1 ok1 x3 ok3 x2 _ rfl) [.agg #[.int .i64 x1.fx,.int .i64 x1.ad,.int .i64 x1.ins,u1_3,u1_4,u1_5,u1_6],.int .i64 x2,.agg #[u3_0,u3_1,u3_2,u3_3]] (fun e he=>by simp only[qN,den,he 0 _ rfl,he 1 _ rfl,he 2 _ rfl,he 3 _ rfl,he 4 _ rfl,he 5 _ rfl,he 6 _ rfl,he 7 _ rfl])).mono fun e W' ⟨he,hb⟩=>?_

 subst he
 exact⟨_,rfl,qWm (pa:=p1++(p2++p3)) (pv:=[]) hW' (fun _ _ _=>trodAll_mk1 (shut_bool u4 _))
  (fun sp hs=>⟨_,_,zCc (t:=27) (by kernel_rfl) (of_decide_eq_true (by kernel_rfl)) h1 hb (fun p hp=>hlt p (by simp only[List.mem_append]; exact .inl hp)) (fun p hp=>hs p (by simp only[List.mem_append]; exact .inl hp)),⟨_,_,zCc (t:=3) (by kernel_rfl) (of_decide_eq_true (by kernel_rfl)) h2 hb (fun p hp=>hlt p (by simp only[List.mem_append]; exact .inr (.inl hp))) (fun p hp=>hs p (by simp only[List.mem_append]; exact .inr (.inl hp))),trodAll_mk1 (zCc (t:=33) (by kernel_rfl) (of_decide_eq_true (by kernel_rfl)) h3 hb (fun p hp=>hlt p (by simp only[List.mem_append]; exact .inr (.inr hp))) (fun p hp=>hs p (by simp only[List.mem_append]; exact .inr (.inr hp)))),rfl⟩,rfl⟩) (fun _ _=>rfl) (by simp)
  hb (ok_one (by kernel_rfl) rfl (okWide_bool_mk u4 _))⟩
theorem regionLayouts_holds:Rows.RegionLayoutsUptoSaid :=
 OpenClaim.holds_of_cond 3 Tryz.f3 rfl rfl rfl rfl rfl rfl rfl ⟨rfl,rfl,rfl,rfl,rfl⟩ rfl rfl rfl rfl rfl (by kernel_rfl) Tryz.func3 (by kernel_rfl)
  (of_decide_eq_true (by kernel_rfl)) (by unfold Func.isWrapper; first | (rw[if_pos (by decide +kernel)]; kernel_rfl) | (rw[if_neg (by decide +kernel)]; exact⟨rfl,rfl⟩))
  (fun os started H enc _ F=>qDk os started H enc F)
#print axioms regionLayouts_holds
end Go.Proofs.YtlmjdcbhpffanaaGreat
