/- The texts Tx15 .. Z8 of this proof, one behind the other. -/
import Derived.Test.YtlmjdcbhpffanaaGreatM0
import Derived.Laws.StructEq
import Derived.ProofKit
import Derived.Laws.IdiomArrays
import Derived.SizedLaws
import Derived.Deep.Slices
import Derived.Test.YtlmjdcbhpffanaaGreatChecked
import Derived.Shelf.Spec.BitsCarry
/- The run through a body: the whole. -/
namespace Go.Sx
open Go.RowKit

section
variable {P : Program} {X : Ext P} {B : Code} {n : Nat} {F : Mem → Prop} {w0 : wO} {fin : Exit → Act → World → Prop}

def Has(sd:List zF)(L:List qDd):Prop:=(∃ l,l∈L)∧∀ l∈L,∀ s∈sd,s∈l.sd
theorem Has.single(sd:List zF)(k:List It)(st:St)(D:List Dec):Has sd [⟨sd,k,st,D⟩] :=
 ⟨⟨_,List.mem_cons_self⟩,fun l hl s hs=>by
  rw[List.mem_singleton] at hl
  subst hl
  exact hs⟩
theorem Has.left{sd sd2:List zF}{L:List qDd}(h:Has (sd++sd2) L):Has sd L:=⟨h.1,fun l hl s hs=>h.2 l hl s (List.mem_append_left _ hs)⟩
theorem qFv{sd:List zF}{g:Nat→Option (List qDd)}:∀(l:List Nat) {L:List qDd},qKb g l=some L→(∀ i∈l,∀ L',g i=some L'→Has sd L') →
  (∀ i∈l,∃ L',g i=some L'∧∀ x∈L',x∈L)∧∀ x∈L,∀ s∈sd,s∈x.sd
 | [],L,h,_=>by
  simp only[qKb,sI] at h
  subst h
  exact⟨fun i hi=>(by cases hi),fun x hx=>(by cases hx)⟩
 | i::r,L,h,hg=>by
  simp only[qKb] at h
  split at h
  ·rename_i a b ha hb
   simp only[sI] at h
   subst h
   obtain⟨r1,r2⟩:=qFv r hb (fun j hj=>hg j (List.mem_cons_of_mem _ hj))
   refine⟨fun j hj=>?_,fun x hx s hs=>?_⟩
   ·rcases List.mem_cons.1 hj with rfl | hj
    ·exact⟨a,ha,fun x hx=>List.mem_append_left _ hx⟩
    ·obtain⟨L',q1,q2⟩:=r1 j hj
     exact⟨L',q1,fun x hx=>List.mem_append_right _ (q2 x hx)⟩
   ·rcases List.mem_append.1 hx with hx | hx
    ·exact(hg i List.mem_cons_self a ha).2 x hx s hs
    ·exact r2 x hx s hs
  ·cases h
theorem qTi:∀(fuel:Nat) (D:List Dec) (k:List It) (st:St) (sd:List zF) {L:List qDd},wS P X B n fuel D k st sd=some L→Has sd L
 | 0,D,k,st,sd,L,h=>by
  simp only[wS,sI] at h
  subst h
  exact Has.single ..
 | fuel+1,D,k,st,sd,L,h=>by
  have ih:=fun D k st sd (L:List qDd) (h:wS P X B n fuel D k st sd=some L)=>qTi fuel D k st sd h
  unfold wS at h
  split at h
  ·simp only[sI] at h; subst h; exact Has.single ..
  ·simp only[sI] at h; subst h; exact Has.single ..
  ·simp only[sI] at h; subst h; exact Has.single ..
  ·simp only[sI] at h; subst h; exact Has.single ..
  ·exact ih _ _ _ _ _ h
  ·split at h
   ·exact ih _ _ _ _ _ h
   ·exact ih _ _ _ _ _ h
   ·exact ih _ _ _ _ _ h
   ·exact ih _ _ _ _ _ h
   ·split at h
    ·exact ih _ _ _ _ _ h
    ·exact ih _ _ _ _ _ h
    ·split at h
     ·exact(ih _ _ _ _ _ h).left
     ·exact(ih _ _ _ _ _ h).left
     ·simp only[sI] at h; subst h; exact Has.single ..
    ·cases h
   ·split at h
    ·exact ih _ _ _ _ _ h
    ·cases h
   ·simp only[sI] at h; subst h; exact Has.single ..
   ·exact ih _ _ _ _ _ h
   ·simp only[sI] at h; subst h; exact Has.single ..
  ·split at h
   ·split at h
    ·exact ih _ _ _ _ _ h
    ·split at h
     ·exact(ih _ _ _ _ _ h).left
     ·simp only[sI] at h; subst h; exact Has.single ..
   ·cases h
  ·split at h
   ·split at h
    ·exact ih _ _ _ _ _ h
    ·rename_i r rs hr
     split at h
     ·cases h
     ·rename_i f
      cases hns:Region.noSelect _ with
      | false=>rw[hns] at h; cases h
      | true =>
       rw[hns] at h
       simp only[cond_true] at h
       split at h
       ·exact(ih _ _ _ _ _ h).left
       ·cases hwt:zEo _ st D (r::_) with
        | true =>
         rw[hwt] at h
         simp only[cond_true,sI] at h
         subst h
         exact Has.single ..
        | false =>
        rw[hwt] at h
        simp only[cond_false] at h
        obtain⟨b1,b2⟩:=qFv (sd:=sd) _ h (fun i _ L' hL'=>by
         split at hL'
         ·cases hL'
         ·split at hL'
          ·cases hkk:(yN _||!qJh _ i) with
           | false=>rw[hkk] at hL'; cases hL'
           | true =>
            rw[hkk] at hL'
            simp only[cond_true] at hL'
            exact(ih _ _ _ _ _ hL').left
          ·simp only[sI] at hL'
           subst hL'
           exact Has.single ..)
        obtain⟨L',q1,q2⟩:=b1 r List.mem_cons_self
        have hh:∃ x,x∈L':=by
         split at q1
         ·cases q1
         ·split at q1
          ·cases hkk:(yN _||!qJh _ r) with
           | false=>rw[hkk] at q1; cases q1
           | true =>
            rw[hkk] at q1
            simp only[cond_true] at q1
            exact(ih _ _ _ _ _ q1).1
          ·simp only[sI] at q1
           subst q1
           exact⟨_,List.mem_cons_self⟩
        obtain⟨x,hx⟩:=hh
        exact⟨⟨x,q2 x hx⟩,b2⟩
   ·cases h
def qVw(P:Program)(B:Code)(n:Nat)(F:Mem→Prop)(w0:wO)(fin:Exit→Act→World→Prop)(L:List qDd):Prop :=
 ∀ l∈L,yE F l.sd∧Ok P B n F w0 fin l.k l.st
theorem qVw.single{sd:List zF}{k:List It}{st:St}{D:List Dec}(h:qVw P B n F w0 fin [⟨sd,k,st,D⟩]):Ok P B n F w0 fin k st :=
 (h _ List.mem_cons_self).2
theorem qVw.sides{sd sd2:List zF}{L:List qDd}(hp:qVw P B n F w0 fin L)(h:Has (sd++sd2) L):yE F sd2:=by
 obtain⟨l,hl⟩:=h.1
 exact fun s hs=>(hp l hl).1 s (h.2 l hl s (List.mem_append_right _ hs))
variable (hm : P.follows .mixedOrders = true) (hF : zP F) (hfin : ∀ c (a : Act) (d : Option Tmp) (v : Value) (w : World), fin (.panic c) (a.put d v) w → fin (.panic c) a w)
include hm hF hfin

theorem qKn:∀(fuel:Nat) (D:List Dec) (k:List It) (st:St) (sd:List zF) {L:List qDd},wS P X B n fuel D k st sd=some L →
  qVw P B n F w0 fin L→Ok P B n F w0 fin k st
 | 0,D,k,st,sd,L,h,hp=>by
  simp only[wS,sI] at h
  subst h
  exact hp.single
 | fuel+1,D,k,st,sd,L,h,hp=>by
  have ih:=fun D k st sd (L:List qDd) (h:wS P X B n fuel D k st sd=some L) (hp:qVw P B n F w0 fin L)=>qKn fuel D k st sd h hp
  have hL:=qTi fuel (P:=P) (X:=X) (B:=B) (n:=n)
  unfold wS at h
  split at h
  ·simp only[sI] at h; subst h; exact hp.single
  ·simp only[sI] at h; subst h; exact hp.single
  ·simp only[sI] at h; subst h; exact hp.single
  ·simp only[sI] at h; subst h; exact hp.single
  ·intro e a w S T
   have:=ih _ _ _ _ _ h hp e a w S T
   simp only[jD]
   exact this
  ·rename_i p k'
   split at h
   ·rename_i hs
    intro e a w S T
    simp only[jD,hs]
    exact wp_skip (ih _ _ _ _ _ h hp e a w S T)
   ·rename_i hs
    intro e a w S T
    simp only[jD,hs]
    exact wp_label (ih _ _ _ _ _ h hp e a w S T)
   ·rename_i c1 c2 hs
    intro e a w S T
    have:=ih _ _ _ _ _ h hp e a w S T
    have h2:sub B (1::p)=c2:=by simp only[sub,hs,qIx]
    simp only[jD,sub,hs,qIx] at this ⊢
    refine wp_seq (Code.wp_mono (fun e' a' w' hq=>?_) this)
    cases e' with
    | normal=>simp only[jD,h2] at hq; exact hq
    | _=>exact hq
   ·rename_i id c1 hs
    intro e a w S T
    have:=ih _ _ _ _ _ h hp e a w S T
    simp only[jD,sub,hs,qIx] at this ⊢
    refine wp_block (Code.wp_mono (fun e' a' w' hq=>?_) this)
    cases e' <;> exact hq
   ·rename_i c c1 c2 hs
    split at h
    ·rename_i hc
     intro e a w S T
     have:=ih _ _ _ _ _ h hp e a w S T
     simp only[jD,sub,hs,qIx] at this ⊢
     exact wp_cond_true (by rw[(qH T hc).1]; rfl) this
    ·rename_i hc
     intro e a w S T
     have:=ih _ _ _ _ _ h hp e a w S T
     simp only[jD,sub,hs,qIx] at this ⊢
     exact wp_cond_false (by rw[(qH T hc).1]; rfl) this
    ·rename_i b hc
     split at h
     ·intro e a w S T
      have hb:b=true:=hp.sides (hL _ _ _ _ h) _ List.mem_cons_self _ S.fact
      have:=ih _ _ _ _ _ h hp e a w S T
      simp only[jD,sub,hs,qIx] at this ⊢
      exact wp_cond_true (by rw[(qH T hc).1,hb]; rfl) this
     ·intro e a w S T
      have hb:b=false:=hp.sides (hL _ _ _ _ h) _ List.mem_cons_self _ S.fact
      have:=ih _ _ _ _ _ h hp e a w S T
      simp only[jD,sub,hs,qIx] at this ⊢
      exact wp_cond_false (by rw[(qH T hc).1,hb]; rfl) this
     ·simp only[sI] at h; subst h; exact hp.single
    ·cases h
   ·rename_i id hs
    split at h
    ·rename_i k2 hk
     intro e a w S T
     have:=ih _ _ _ _ _ h hp e a w S T
     simp only[jD,hs]
     exact wp_exit (xL id _ hk a w this)
    ·cases h
   ·rename_i hs
    simp only[sI] at h
    subst h
    intro e a w S T
    have:=hp.single e a w S T
    simp only[jD,hs] at this ⊢
    exact wp_ret this
   ·rename_i id ops dr hs
    cases dr with
    | false =>
     intro e a w S T
     have:=ih _ _ _ _ _ h hp e a w S T
     simp only[cond_false,jD,hs,List.drop_zero] at this ⊢
     exact wp_region_list this
    | true =>
     intro e a w S T
     have:=ih _ _ _ _ _ h hp e a w.drew S.drew T
     simp only[cond_true,jD,hs] at this ⊢
     exact qTp hm this
   ·simp only[sI] at h; subst h; exact hp.single
  ·rename_i p i k'
   split at h
   ·rename_i id ops dr hs
    split at h
    ·rename_i ho
     intro e a w S T
     have:=ih _ _ _ _ _ h hp e a w S T
     simp only[jD,hs]
     have hd:ops.toList.drop i=[]:=by
      rw[List.drop_eq_nil_iff]
      simpa using ho
     rw[hd]
     exact wpList_nil this
    ·rename_i o ho
     split at h
     ·rename_i st2 sd2 D2 hx
      intro e a w S T
      obtain⟨e',w',v,r1,r2,_,r4⟩:=qPs hF S T hx (hp.sides (hL _ _ _ _ h))
      have:=ih _ _ _ _ _ h hp e' _ w' r1 r2
      simp only[jD,hs] at this ⊢
      have hlt:i<ops.toList.length:=by
       have:=(Array.getElem?_eq_some_iff.1 ho).1
       simpa using this
      have hd:ops.toList.drop i=o::ops.toList.drop (i+1):=by
       rw[List.drop_eq_getElem_cons hlt]
       congr 1
       have h2:=(Array.getElem?_eq_some_iff.1 ho).2
       simpa using h2
      rw[hd]
      exact wpList_step fun K hK=>r4 K _ (hK _ _ this)
     ·simp only[sI] at h; subst h; exact hp.single
   ·cases h
  ·rename_i p f l k'
   split at h
   ·rename_i id ops dr hs
    split at h
    ·rename_i hr
     intro e a w S T
     have:=ih _ _ _ _ _ h hp e a w S T
     simp only[jD,hs]
     exact qTw hr this f
    ·rename_i r rs hr
     split at h
     ·cases h
     ·rename_i f
      cases hns:Region.noSelect ops with
      | false=>rw[hns] at h; cases h
      | true =>
       rw[hns] at h
       simp only[cond_true] at h
       split at h
       ·rename_i i st2 sd2 D2 hx
        intro e a w S T
        obtain⟨t1,t2,o,v,t3,t3b,t4,t5,t6⟩:=qJd S T _ hx (hp.sides (hL _ _ _ _ h))
        have:=ih _ _ _ _ _ h hp e _ w (by rw[t4]; exact S) (by rw[t4]; exact t5)
        simp only[jD,hs] at this ⊢
        refine qSs (zCh hF) t3 t3b hns t2 (by rw[hr]; simpa using t1) (fun c a' w' hq=>?_) t6 S.q this
        rw[qYh] at hq ⊢
        exact hfin c a' _ _ w' hq
       ·cases hwt:zEo ops st D (r::rs) with
        | true =>
         rw[hwt] at h
         simp only[cond_true,sI] at h
         subst h
         exact hp.single
        | false =>
        rw[hwt] at h
        simp only[cond_false] at h
        intro e a w S T
        simp only[jD,hs]
        refine fun hcl=>⟨fun h0=>(by rw[hr] at h0; cases h0),fun i hi=>?_⟩
        refine wpOp_mono (fun a' w' hh=>⟨hh.1,hh.2 (hcl.set hi)⟩) (?_:wpOp P ops (jD P B fin k') i (fun a' w'=>(qJh ops i=true→qJg w w')∧qDr P ops (jD P B fin k') f (l.setIfInBounds i true) a' w') a w)
        rw[hr] at hi
        obtain⟨b1,b2⟩:=qFv (sd:=sd) _ h (fun i _ L' hL'=>by
         split at hL'
         ·cases hL'
         ·split at hL'
          ·cases hkk:(yN _||!qJh _ i) with
           | false=>rw[hkk] at hL'; cases hL'
           | true =>
            rw[hkk] at hL'
            simp only[cond_true] at hL'
            exact(hL _ _ _ _ hL').left
          ·simp only[sI] at hL'
           subst hL'
           exact Has.single ..)
        obtain⟨L',q1,q2⟩:=b1 i hi
        have hp':qVw P B n F w0 fin L':=fun x hx=>hp x (q2 x hx)
        split at q1
        ·cases q1
        ·rename_i o ho
         split at q1
         ·rename_i st2 sd2 D2 hx
          cases hkk:(yN o||!qJh ops i) with
          | false=>rw[hkk] at q1; cases q1
          | true =>
           rw[hkk] at q1
           simp only[cond_true] at q1
           obtain⟨e',w',v,r1,r2,r3,r4⟩:=qPs hF S T hx (hp'.sides (hL _ _ _ _ q1))
           have:=ih _ _ _ _ _ q1 hp' e' _ w' r1 r2
           simp only[jD,hs] at this
           unfold wpOp
           simp only[ho]
           have h4:=r4 (fun a' w'=>(qJh ops i=true→qJg w w')∧qDr P ops (jD P B fin k') f (l.setIfInBounds i true) a' w') (jD P B fin k') ⟨fun hn=>r3 (by
            rw[hn] at hkk
            simpa using hkk),this⟩
           split
           ·rename_i hw
            rw[if_pos hw] at h4
            exact .inl h4
           ·rename_i hw
            rw[if_neg hw] at h4
            exact h4
         ·simp only[sI] at q1
          subst q1
          have:=hp'.single e a w S T
          simp only[jD,hs] at this
          exact this
   ·cases h
end
end Go.Sx
/- What a prover uses: the beginning, the end, loops, calls, another state. -/
namespace Go.Sx
open Go.RowKit

/-! ### results -/
def qRa(P:Program)(st:St):ResultVar→Option SV
 | .tmp t=>lk st.tm t
 | .cell x T=>match lk st.tm x with
  | some (.p i off)=>match st.heap[i]? with
   | some (.cells cs _)=>match qGy P T i cs off [] with
    | some (s,[],_)=>some s
    | _=>none
   | _=>none
  | _=>none
def qEk(P:Program)(st:St):List ResultVar→Option (List SV)
 | []=>some []
 | r::rs=>match qRa P st r,qEk P st rs with
  | some s,some l=>some (s::l)
  | _,_=>none
def zNx(P:Program)(st:St)(rs:List ResultVar):Option SV :=
 match qEk P st rs with
 | some [s]=>some s
 | some l=>some (.tup l)
 | none=>none

/-! ### a call -/
def qJn(P:Program)(t:TypeId)(v:Value)(name:String)(asl:List SV):Option (FuncId×List SV) :=
 match qEx P (method (P.types.size+Made.depth) t v name) with
 | some (f,r)=>some (f,.v r::asl)
 | none=>none
def qHg(P:Program)(st:St)(c:Call):Option (FuncId×List SV) :=
 match c.callee with
 | .invoke x name=>match evO st.tm x,qCu st.tm c.args.toList with
  | some (.ifc t y),some asl=>match jR y with
   | some v=>qJn P t v name asl
   | none=>none
  | some (.v (.iface t v)),some asl=>qJn P t v name asl
  | _,_=>none
 | .value x=>match evO st.tm x,qCu st.tm c.args.toList with
  | some (.fn (.func f) first cap),some asl=>some (f,first++asl++cap)
  | some (.v (.func (.func f) first cap)),some asl=>some (f,(first.toList.map SV.v)++asl++(cap.toList.map SV.v))
  | _,_=>none
 | _=>none
def qEw(P:Program)(f:FuncId):Bool :=
 match P.funcs[f]? with
 | some fn=>fn.body.isSome&&!(fn.name == "runtime.NumGoroutine")
 | none=>false
def qCs(P:Program)(B:Code)(it:It)(st:St)(D:List Dec):Option (FuncId×List SV×St×List zF×Option Nat×It) :=
 match it with
 | .ops p i=>match sub B p with
  | .region _ ops _=>match ops[i]? with
   | some o=>match qGa ops st D o with
    | some (true,st1,sd,_)=>match o.op with
     | .call c=>match qHg P st1 c with
      | some (f,args)=>bif qEw P f then some (f,args,st1,sd,o.dst,.ops p (i+1)) else none
      | none=>none
     | _=>none
    | _=>none
   | none=>none
  | _=>none
 | .one p fu l i=>match sub B p with
  | .region _ ops _=>match ops[i]? with
   | some o=>match qGa ops st D o with
    | some (true,st1,sd,_)=>match o.op with
     | .call c=>match qHg P st1 c with
      | some (f,args)=>bif qEw P f then some (f,args,st1,sd,o.dst,.any p fu (l.setIfInBounds i true)) else none
      | none=>none
     | _=>none
    | _=>none
   | none=>none
  | _=>none
 | _=>none
section
variable {P : Program} {X : Ext P} {B : Code} {n : Nat} {F : Mem → Prop} {w0 : wO} {fin : Exit → Act → World → Prop}

theorem Ok.loop{p:List Nat}{k:List It}{st:St}(m:Nat)(hs:(match sub B p with | .loop _=>true | _=>false)=true)(h:Ok P B n F w0 fin (.rnd (0::p) m::k) st):Ok P B n F w0 fin (.at p::k) st:=by
 intro e a w S T
 have:=h e a w S T
 simp only[jD,sub] at this ⊢
 cases hc:sub B p with
 | loop c =>
  rw[hc] at this
  exact wp_loop_rounds m this
 | _=>rw[hc] at hs; cases hs
theorem Ok.rnd{q:List Nat}{m:Nat}{k:List It}{st:St}(h:Ok P B n F w0 fin (.at q::.rnd q m::k) st):Ok P B n F w0 fin (.rnd q (m+1)::k) st:=by
 intro e a w S T
 have:=h e a w S T
 simp only[jD] at this ⊢
 rw[rounds_succ]
 refine Code.wp_mono (fun e' a' w' hq=>?_) this
 cases e' <;> exact hq
def qTv(tmps:Array Value):ResultVar→Sem Value
 | .tmp t=>pure (tmps.getD t undef)
 | .cell x t=>do loadVar t (← asAddr (tmps.getD x undef))
theorem qVy(fn:Func)(tmps:Array Value):results fn tmps=(do let vs ← fn.results.mapM (qTv tmps); pure (if h:vs.size=1 then vs[0] else .tuple vs)):=by
 unfold results
 congr 1
theorem qNl{st:St}{e:Env}{a:Act}{w:World}(S:qP F w0 st.heap e w)(T:zA n st.heap.length st.tm e a){r:ResultVar}{s:SV}(h:qRa P st r=some s):
  (qTv a.tmps r).run P w=.ok (den e s) w:=by
 cases r with
 | tmp t =>
  have:=T.get t s h
  simp [qTv,this]
 | cell x t =>
  simp only[qRa] at h
  split at h
  ·rename_i i off hx
   split at h
   ·rename_i cs T0 hi
    split at h
    ·rename_i s1 D1 hl
     simp only[sI] at h
     subst h
     have hg:=T.get x _ hx
     obtain⟨r1,_⟩:=qBn (M:=fun _=>none) hl (fun x hx=>by cases hx) (qTf S.q hi) (S.ws i _ hi)
     simp only[qTv,Array.getD_eq_getD_getElem?,hg,Option.getD_some,den,asAddr,Sem.run_bind,Sem.run_pure,Result.andThen_ok,r1]
    ·cases h
   ·cases h
  ·cases h
theorem qFf{st:St}{e:Env}{a:Act}{w:World}(S:qP F w0 st.heap e w)(T:zA n st.heap.length st.tm e a):∀(rs:List ResultVar) {l:List SV},qEk P st rs=some l →
  (rs.mapM (qTv a.tmps)).run P w=.ok (qN e l) w
 | [],l,h=>by
  simp only[qEk,sI] at h
  subst h
  rfl
 | r::rs,l,h=>by
  simp only[qEk] at h
  split at h
  ·rename_i s l1 h1 h2
   simp only[sI] at h
   subst h
   have q1:=qNl S T h1
   have q2:=qFf S T rs h2
   rw[List.mapM_cons,Sem.run_bind]
   rw[q1,Result.andThen_ok,Sem.run_bind,q2]
   rfl
  ·cases h
theorem qXd{fn:Func}{st:St}{e:Env}{a:Act}{w:World}(S:qP F w0 st.heap e w)(T:zA n st.heap.length st.tm e a){s:SV}(h:zNx P st fn.results.toList=some s):
  (results fn a.tmps).run P w=.ok (den e s) w:=by
 have key:∀ l,qEk P st fn.results.toList=some l→(results fn a.tmps).run P w=.ok (if h:(qN e l).toArray.size=1 then(qN e l).toArray[0] else .tuple (qN e l).toArray) w:=by
  intro l hl
  have:=qFf S T _ hl
  rw[qVy,Array.mapM_eq_mapM_toList]
  simp only[Sem.run_bind,Sem.run_map,this,Result.andThen_ok,Sem.run_pure]
 unfold zNx at h
 split at h
 ·rename_i s1 hl
  simp only[sI] at h
  subst h
  rw[key _ hl]
  rfl
 ·rename_i l hne hl
  simp only[sI] at h
  subst h
  rw[key _ hl]
  have hsz:¬ (qN e l).toArray.size=1:=by
   intro hh
   simp only[List.size_toArray,qS] at hh
   match l,hh with
   | [x],_=>exact hne x rfl
  rw[dif_neg hsz]
  rfl
 ·cases h

/-! ### another state that says less -/
mutual
def yH (π : List Nat) : SV → SV
  | .v x => .v x
  | .bl b => .bl b
  | .p i off => .p (π.getD i 0) off
  | .o i => .o (π.getD i 0)
  | .q i off => .q (π.getD i 0) off
  | .m i => .m (π.getD i 0)
  | .sl i off len cap => .sl (π.getD i 0) off len cap
  | .x i p => .x (π.getD i 0) p
  | .xp i p sz k j => .xp (π.getD i 0) p sz k j
  | .qk i sz k j => .qk (π.getD i 0) sz k j
  | .agg cs => .agg (qCe π cs)
  | .tup cs => .tup (qCe π cs)
  | .fn f a c => .fn f (qCe π a) (qCe π c)
  | .ifc t y => .ifc t (yH π y)
def qCe (π : List Nat) : List SV → List SV
  | [] => []
  | x :: r => yH π x :: qCe π r
end
def zU(π:List Nat)(e:Env):Env:=⟨fun i=>e.blk (π.getD i 0),fun i=>e.row (π.getD i 0),fun i=>e.val (π.getD i 0),fun _ p=>e.one _ p,e.z⟩
mutual
theorem qJy (π : List Nat) (e : Env) : ∀ s, den (zU π e) s = den e (yH π s)
  | .v x => rfl
  | .bl b => rfl
  | .p i off => rfl
  | .o i => rfl
  | .q i off => rfl
  | .m i => rfl
  | .sl i off len cap => rfl
  | .x i p => rfl
  | .xp i p sz k j => rfl
  | .qk i sz k j => rfl
  | .agg cs => by simp only [den, yH, xM π e cs]
  | .tup cs => by simp only [den, yH, xM π e cs]
  | .fn f a c => by simp only [den, yH, xM π e a, xM π e c]
  | .ifc t y => by simp only [den, yH, qJy π e y]
theorem xM (π : List Nat) (e : Env) : ∀ l, qN (zU π e) l = qN e (qCe π l)
  | [] => rfl
  | x :: r => by simp only [qN, qCe, qJy π e x, xM π e r]
end
def jN(π:List Nat):HO→HO
 | .cells cs T=>.cells (qCe π cs) T
 | .row T sz n xs=>.row T sz n (qCe π xs)
 | .rowc T sz n c=>.rowc T sz n c
 | .ext b c=>.ext b c
 | .obj o=>.obj o
 | .mp ag ks kl c=>.mp ag ks kl (c.map (qCe π))
 | .tbl T0 T1 sz n c hole=>.tbl T0 T1 sz n c (hole.map fun x=>(x.1,π.getD x.2 0))
 | .gone=>.gone
theorem qCx(g:Nat→Nat)(hole:Option (Nat×Nat))(k:Nat):inH (hole.map fun x=>(x.1,g x.2)) k↔inH hole k:=by
 cases hole with
 | none=>simp [inH]
 | some x =>
  simp only[inH,Option.map_some,ne_eq,sI,Prod.ext_iff]
  constructor <;> intro h m hm
  ·exact h (g x.2) ⟨hm.1,rfl⟩
  ·exact h x.2 ⟨hm.1,rfl⟩
def xA:List Nat→Bool
 | []=>true
 | x::r=>!(r.any fun y=>Nat.beq x y)&&xA r
theorem qBg:∀(l:List Nat),xA l=true→∀(i j x:Nat),l[i]?=some x→l[j]?=some x→i=j
 | [],_,i,j,x,hi,_=>by cases hi
 | y::r,h,i,j,x,hi,hj=>by
  simp only[xA,Bool.and_eq_true,Bool.not_eq_true'] at h
  have hno:∀ k,r[k]?=some y→False:=fun k hk=>by
   have:=h.1
   rw[Bool.eq_false_iff] at this
   exact this (List.any_eq_true.2 ⟨y,List.mem_of_getElem? hk,by simp⟩)
  cases i with
  | zero =>
   simp only[List.getElem?_cons_zero,sI] at hi
   subst hi
   cases j with
   | zero=>rfl
   | succ j=>exact(hno j hj).elim
  | succ i =>
   cases j with
   | zero =>
    simp only[List.getElem?_cons_zero,sI] at hj
    subst hj
    exact(hno i hi).elim
   | succ j=>rw[qBg r h.2 i j x hi hj]
theorem zFe{π:List Nat}{e:Env}{M:Mem}{i j:Nat}{w:World}{x:HO}(hij:π[i]?=some j)(h:(jN π x).sat e M j w):x.sat (zU π e) M i w:=by
 have h1:(zU π e).blk i=e.blk j:=by simp [zU,hij]
 have h2:(zU π e).row i=e.row j:=by simp [zU,hij]
 have h3:(zU π e).val i=e.val j:=by simp [zU,hij]
 cases x with
 | cells cs T =>
  simp only[HO.sat,jN] at h ⊢
  rw[xM,h1]
  exact h
 | row T sz n xs =>
  simp only[HO.sat,jN] at h ⊢
  rw[xM,h2]
  exact h
 | rowc T sz n c =>
  simp only[HO.sat,jN] at h ⊢
  rw[h2]
  exact h
 | ext b c =>
  simp only[HO.sat,jN] at h ⊢
  rw[h3]
  exact h
 | obj o =>
  simp only[HO.sat,jN] at h ⊢
  rw[h1]
  exact h
 | mp ag ks kl c =>
  have hc:(c.map (qCe π)).den e kl.length=c.den (zU π e) kl.length:=Mc.den_map _ _ _ _ c fun xs _=>(xM π e xs).symm
  simp only[HO.sat,jN,hc] at h ⊢
  rw[h1]
  exact h
 | tbl T0 T1 sz n c hole =>
  refine wI h2 h3 (fun k=>?_) (fun k=>(qCx (fun m=>π.getD m 0) hole k).symm) (Mem.le.refl _) (fun _ _=>rfl) h
  cases hole with
  | none=>simp only[thd,Option.map_none,h3]
  | some x=>simp only[thd,Option.map_some,h3]; rfl
 | gone=>trivial
theorem qGr{π:List Nat}{e:Env}{i j:Nat}{x:HO}(hij:π[i]?=some j):x.own (zU π e) i=(jN π x).own e j:=by
 have h1:(zU π e).blk i=e.blk j:=by simp [zU,hij]
 have h2:(zU π e).row i=e.row j:=by simp [zU,hij]
 have h3:(zU π e).val i=e.val j:=by simp [zU,hij]
 cases x with
 | tbl T0 T1 sz n c hole=>funext b; simp only[HO.own,jN,h2,h3,qCx (fun m=>π.getD m 0)]
 | _=>funext b; simp [HO.own,jN,h1,h2]
theorem qP.ren(hF:zP F){h h':List HO}{e:Env}{w:World}(S:qP F w0 h e w)(π:List Nat)(hn:xA π=true)(hp:w0.m≤h'.length∧∀ i,i<w0.m→π[i]?=some i)(hH:∀(i:Nat) (x:HO),h'[i]?=some x→∃ j:Nat,π[i]?=some j∧h[j]?=some (jN π x))(hw:∀(i:Nat) (x:HO),h'[i]?=some x→x.ws h'.length):qP F w0 h' (zU π e) w:=by
 have hM:(mem w e h).le (mem w (zU π e) h'):=by
  intro b o hb
  unfold mem at hb ⊢
  split at hb
  ·cases hb
  ·rename_i hno
   rw[if_neg,hb]
   rintro⟨i,x,hx,hb2⟩
   obtain⟨j,hj,hx'⟩:=hH i x hx
   rw[qGr hj] at hb2
   exact hno ⟨j,_,hx',hb2⟩
 refine⟨S.os,S.tape,S.output,?_,hw,?_,hF _ _ hM S.fact,?_,S.zlt,S.ez,hp.1,fun i hi=>?_⟩
 rotate_right
 ·have:=hp.2 i hi
  simp only[zU,List.getD_eq_getElem?_getD,this,Option.getD_some]
  exact S.pin.2 i hi
 ·intro i x hx
  obtain⟨j,hj,hx'⟩:=hH i x hx
  have:=zFe hj (S.sat j _ hx')
  exact qLz hM (fun _ _=>rfl) this
 ·intro i i2 x x2 b hx hx2 hb hb2
  obtain⟨j,hj,hx'⟩:=hH i x hx
  obtain⟨j2,hj2,hx2'⟩:=hH i2 x2 hx2
  rw[qGr hj] at hb
  rw[qGr hj2] at hb2
  have:=S.one j j2 _ _ b hx' hx2' hb hb2
  subst this
  exact qBg π hn i i2 j hj hj2
 ·intro i x b hx hb
  obtain⟨j,hj,hx'⟩:=hH i x hx
  rw[qGr hj] at hb
  exact S.nz j _ b hx' hb

/-! ### the objects that matter, in their order -/
def qBu:List Nat→Nat→Option Nat
 | [],_=>none
 | x::r,i=>bif Nat.beq x i then some 0 else match qBu r i with | some k=>some (k+1) | none=>none
theorem qMl:∀(l:List Nat) {i k:Nat},qBu l i=some k→l[k]?=some i
 | [],i,k,h=>by cases h
 | x::r,i,k,h=>by
  simp only[qBu] at h
  cases hb:Nat.beq x i with
  | true =>
   rw[hb] at h
   simp only[cond_true,sI] at h
   subst h
   simp [Nat.eq_of_beq_eq_true hb]
  | false =>
   rw[hb] at h
   simp only[cond_false] at h
   split at h
   ·rename_i k' hk
    simp only[sI] at h
    subst h
    simpa using qMl r hk
   ·cases h
mutual
def qCc (π : List Nat) : SV → Option SV
  | .v x => some (.v x)
  | .bl b => some (.bl b)
  | .p i off => match qBu π i with | some k => some (.p k off) | none => none
  | .o i => match qBu π i with | some k => some (.o k) | none => none
  | .q i off => match qBu π i with | some k => some (.q k off) | none => none
  | .m i => match qBu π i with | some k => some (.m k) | none => none
  | .sl i off len cap => match qBu π i with | some k => some (.sl k off len cap) | none => none
  | .x i p => match qBu π i with | some k => some (.x k p) | none => none
  | .xp i p sz k j => match qBu π i with | some q => some (.xp q p sz k j) | none => none
  | .qk i sz k j => match qBu π i with | some q => some (.qk q sz k j) | none => none
  | .agg cs => match qFs π cs with | some l => some (.agg l) | none => none
  | .tup cs => match qFs π cs with | some l => some (.tup l) | none => none
  | .fn f a c => match qFs π a, qFs π c with | some x, some y => some (.fn f x y) | _, _ => none
  | .ifc t y => match qCc π y with | some x => some (.ifc t x) | none => none
def qFs (π : List Nat) : List SV → Option (List SV)
  | [] => some []
  | x :: r => match qCc π x, qFs π r with | some a, some b => some (a :: b) | _, _ => none
end
theorem yX{π:List Nat}{i k:Nat}(h:qBu π i=some k):π.getD k 0=i∧k<π.length:=by
 have h1:=qMl π h
 exact⟨by simp [h1],(List.getElem?_eq_some_iff.1 h1).1⟩
mutual
theorem qCh (π : List Nat) : ∀ (s : SV) {s' : SV}, qCc π s = some s' → yH π s' = s ∧ ws π.length s'
  | .v x, s', h => by simp only [qCc, Option.some.injEq] at h; subst h; exact ⟨rfl, trivial⟩
  | .bl b, s', h => by simp only [qCc, Option.some.injEq] at h; subst h; exact ⟨rfl, trivial⟩
  | .p i off, s', h => by
    simp only [qCc] at h
    split at h
    · rename_i k hk; simp only [Option.some.injEq] at h; subst h; obtain ⟨a, b⟩ := yX hk; exact ⟨by simp only [yH, a], b⟩
    · cases h
  | .o i, s', h => by
    simp only [qCc] at h
    split at h
    · rename_i k hk; simp only [Option.some.injEq] at h; subst h; obtain ⟨a, b⟩ := yX hk; exact ⟨by simp only [yH, a], b⟩
    · cases h
  | .q i off, s', h => by
    simp only [qCc] at h
    split at h
    · rename_i k hk; simp only [Option.some.injEq] at h; subst h; obtain ⟨a, b⟩ := yX hk; exact ⟨by simp only [yH, a], b⟩
    · cases h
  | .m i, s', h => by
    simp only [qCc] at h
    split at h
    · rename_i k hk; simp only [Option.some.injEq] at h; subst h; obtain ⟨a, b⟩ := yX hk; exact ⟨by simp only [yH, a], b⟩
    · cases h
  | .sl i off len cap, s', h => by
    simp only [qCc] at h
    split at h
    · rename_i k hk; simp only [Option.some.injEq] at h; subst h; obtain ⟨a, b⟩ := yX hk; exact ⟨by simp only [yH, a], b⟩
    · cases h
  | .x i p, s', h => by
    simp only [qCc] at h
    split at h
    · rename_i k hk; simp only [Option.some.injEq] at h; subst h; obtain ⟨a, b⟩ := yX hk; exact ⟨by simp only [yH, a], b⟩
    · cases h
  | .xp i p sz k j, s', h => by
    simp only [qCc] at h
    split at h
    · rename_i k hk; simp only [Option.some.injEq] at h; subst h; obtain ⟨a, b⟩ := yX hk; exact ⟨by simp only [yH, a], b⟩
    · cases h
  | .qk i sz k j, s', h => by
    simp only [qCc] at h
    split at h
    · rename_i k hk; simp only [Option.some.injEq] at h; subst h; obtain ⟨a, b⟩ := yX hk; exact ⟨by simp only [yH, a], b⟩
    · cases h
  | .agg cs, s', h => by
    simp only [qCc] at h
    split at h
    · rename_i l hl; simp only [Option.some.injEq] at h; subst h; obtain ⟨a, b⟩ := jU π cs hl; exact ⟨by simp only [yH, a], b⟩
    · cases h
  | .tup cs, s', h => by
    simp only [qCc] at h
    split at h
    · rename_i l hl; simp only [Option.some.injEq] at h; subst h; obtain ⟨a, b⟩ := jU π cs hl; exact ⟨by simp only [yH, a], b⟩
    · cases h
  | .fn f a c, s', h => by
    simp only [qCc] at h
    split at h
    · rename_i x y hx hy; simp only [Option.some.injEq] at h; subst h
      obtain ⟨a1, b1⟩ := jU π a hx
      obtain ⟨a2, b2⟩ := jU π c hy
      exact ⟨by simp only [yH, a1, a2], b1, b2⟩
    · cases h
  | .ifc t y, s', h => by
    simp only [qCc] at h
    split at h
    · rename_i l hl; simp only [Option.some.injEq] at h; subst h; obtain ⟨a, b⟩ := qCh π y hl; exact ⟨by simp only [yH, a], b⟩
    · cases h
theorem jU (π : List Nat) : ∀ (l : List SV) {l' : List SV}, qFs π l = some l' → qCe π l' = l ∧ wsL π.length l'
  | [], l', h => by simp only [qFs, Option.some.injEq] at h; subst h; exact ⟨rfl, trivial⟩
  | x :: r, l', h => by
    simp only [qFs] at h
    split at h
    · rename_i a b ha hb; simp only [Option.some.injEq] at h; subst h
      obtain ⟨a1, b1⟩ := qCh π x ha
      obtain ⟨a2, b2⟩ := jU π r hb
      exact ⟨by simp only [qCe, a1, a2], b1, b2⟩
    · cases h
end
def qHz(π:List Nat):HO→Option HO
 | .cells cs T=>match qFs π cs with | some l=>some (.cells l T) | none=>none
 | .row T sz n xs=>match qFs π xs with | some l=>some (.row T sz n l) | none=>none
 | .rowc T sz n c=>some (.rowc T sz n c)
 | .ext b c=>some (.ext b c)
 | .obj o=>some (.obj o)
 | .mp ag ks kl (.svs xs)=>match qFs π xs with | some l=>some (.mp ag ks kl (.svs l)) | none=>none
 | .mp ag ks kl .unit=>some (.mp ag ks kl .unit)
 | .mp ag ks kl (.ints q l)=>some (.mp ag ks kl (.ints q l))
 | .tbl T0 T1 sz n c none=>some (.tbl T0 T1 sz n c none)
 | .tbl T0 T1 sz n c (some (k,m))=>match qBu π m with | some q=>some (.tbl T0 T1 sz n c (some (k,q))) | none=>none
 | .gone=>some .gone
theorem qXu(π:List Nat){x x':HO}(h:qHz π x=some x'):jN π x'=x∧x'.ws π.length:=by
 cases x with
 | cells cs T =>
  simp only[qHz] at h
  split at h
  ·rename_i l hl; simp only[sI] at h; subst h; obtain⟨a,b⟩:=jU π cs hl; exact⟨by simp only[jN,a],b⟩
  ·cases h
 | row T sz n xs =>
  simp only[qHz] at h
  split at h
  ·rename_i l hl; simp only[sI] at h; subst h; obtain⟨a,b⟩:=jU π xs hl; exact⟨by simp only[jN,a],b⟩
  ·cases h
 | rowc T sz n c=>simp only[qHz,sI] at h; subst h; exact⟨rfl,trivial⟩
 | ext b c=>simp only[qHz,sI] at h; subst h; exact⟨rfl,trivial⟩
 | obj o=>simp only[qHz,sI] at h; subst h; exact⟨rfl,trivial⟩
 | mp ag ks kl c =>
  cases c with
  | unit=>simp only[qHz,sI] at h; subst h; exact⟨rfl,trivial⟩
  | ints q l=>simp only[qHz,sI] at h; subst h; exact⟨rfl,trivial⟩
  | svs xs =>
   simp only[qHz] at h
   split at h
   ·rename_i l hl; simp only[sI] at h; subst h; obtain⟨a,b⟩:=jU π xs hl; exact⟨by simp only[jN,Mc.map,a],b⟩
   ·cases h
 | tbl T0 T1 sz n c hole =>
  match hole,h with
  | none,h=>simp only[qHz,sI] at h; subst h; exact⟨rfl,fun k m hk=>by cases hk⟩
  | some (k,m),h =>
   simp only[qHz] at h
   split at h
   ·rename_i q hq
    simp only[sI] at h
    subst h
    obtain⟨a,b⟩:=yX hq
    exact⟨by simp only[jN,Option.map_some,a],fun k2 m2 hk=>by simp only[sI,pI] at hk; omega⟩
   ·cases h
 | gone=>simp only[qHz,sI] at h; subst h; exact⟨rfl,trivial⟩
def qFe(π:List Nat)(h:List HO):List Nat→Option (List HO)
 | []=>some []
 | i::r=>match h[i]? with
  | some x=>match qHz π x,qFe π h r with
   | some y,some l=>some (y::l)
   | _,_=>none
  | none=>none
theorem xJ(π:List Nat)(h:List HO):∀(l:List Nat) {h':List HO},qFe π h l=some h'→h'.length=l.length∧∀(i:Nat) (x:HO),h'[i]?=some x→(∃ j:Nat,l[i]?=some j∧h[j]?=some (jN π x))∧x.ws π.length
 | [],h',hh=>by simp only[qFe,sI] at hh; subst hh; exact⟨rfl,fun i x hx=>(by cases hx)⟩
 | i::r,h',hh=>by
  simp only[qFe] at hh
  split at hh
  ·rename_i x hx
   split at hh
   ·rename_i y l hy hl
    simp only[sI] at hh
    subst hh
    obtain⟨a,b⟩:=xJ π h r hl
    obtain⟨c,d⟩:=qXu π hy
    refine⟨by simp [a],fun k z hz=>?_⟩
    cases k with
    | zero =>
     simp only[List.getElem?_cons_zero,sI] at hz
     subst hz
     exact⟨⟨i,rfl,by rw[c]; exact hx⟩,d⟩
    | succ k=>simpa using b k z (by simpa using hz)
   ·cases hh
  ·cases hh
def qRb(l:List Nat)(i:Nat):List Nat:=bif l.any (fun y=>Nat.beq i y) then l else l++[i]
mutual
def qJb : SV → List Nat → List Nat
  | .p i _, l => qRb l i
  | .o i, l => qRb l i
  | .q i _, l => qRb l i
  | .m i, l => qRb l i
  | .sl i _ _ _, l => qRb l i
  | .x i _, l => qRb l i
  | .xp i _ _ _ _, l => qRb l i
  | .qk i _ _ _, l => qRb l i
  | .agg cs, l => wV cs l
  | .tup cs, l => wV cs l
  | .fn _ a c, l => wV c (wV a l)
  | .ifc _ y, l => qJb y l
  | _, l => l
def wV : List SV → List Nat → List Nat
  | [], l => l
  | x :: r, l => wV r (qJb x l)
end
def zIo(h:List HO):List Nat→List Nat→List Nat
 | [],l=>l
 | i::r,l=>zIo h r (match h[i]? with
  | some (.cells cs _)=>wV cs l
  | some (.row _ _ _ xs)=>wV xs l
  | some (.mp _ _ _ (.svs xs))=>wV xs l
  | some (.tbl _ _ _ _ _ (some (_,m)))=>qRb l m
  | _=>l)
def xI(h:List HO):Nat→List Nat→List Nat
 | 0,l=>l
 | f+1,l=>xI h f (zIo h l l)
def qBc(tm:List (Nat×SV)):List Nat→List SV
 | []=>[]
 | t::r=>match lk tm t with
  | some s=>s::qBc tm r
  | none=>qBc tm r
def qPe(π:List Nat)(tm:List (Nat×SV)):List Nat→Option (List (Nat×SV))
 | []=>some []
 | t::r=>match lk tm t with
  | some s=>match qCc π s,qPe π tm r with
   | some s',some l=>some ((t,s')::l)
   | _,_=>none
  | none=>qPe π tm r
theorem qAx(π:List Nat)(tm:List (Nat×SV)):∀(ks:List Nat) {tm':List (Nat×SV)},qPe π tm ks=some tm'→∀ t s,lk tm' t=some s→lk tm t=some (yH π s)∧ws π.length s
 | [],tm',h,t,s,hs=>by simp only[qPe,sI] at h; subst h; cases hs
 | u::r,tm',h,t,s,hs=>by
  simp only[qPe] at h
  split at h
  ·rename_i s0 h0
   split at h
   ·rename_i s1 l h1 h2
    simp only[sI] at h
    subst h
    simp only[lk] at hs
    cases hb:Nat.beq u t with
    | true =>
     rw[hb] at hs
     simp only[cond_true,sI] at hs
     subst hs
     have:=Nat.eq_of_beq_eq_true hb
     subst this
     obtain⟨a,b⟩:=qCh π s0 h1
     exact⟨by rw[a]; exact h0,b⟩
    | false =>
     rw[hb] at hs
     exact qAx π tm r h2 t s hs
   ·cases h
  ·exact qAx π tm r h t s hs
def qDa:Nat→Nat→List Nat
 | _,0=>[]
 | i,n+1=>i::qDa (i+1) n
def qXi:Nat→Nat→List Nat→Bool
 | _,0,_=>true
 | i,n+1,x::r=>Nat.beq x i&&qXi (i+1) n r
 | _,_+1,[]=>false
theorem qIt:∀(n i:Nat) (l:List Nat),qXi i n l=true→n≤l.length∧∀ j,j<n→l[j]?=some (i+j)
 | 0,i,l,_=>⟨Nat.zero_le _,fun j hj=>by omega⟩
 | n+1,i,[],h=>by cases h
 | n+1,i,x::r,h=>by
  simp only[qXi,Bool.and_eq_true] at h
  obtain⟨a,b⟩:=qIt n (i+1) r h.2
  refine⟨by rw[List.length_cons]; omega,fun j hj=>?_⟩
  cases j with
  | zero=>rw[List.getElem?_cons_zero,Nat.eq_of_beq_eq_true h.1]; rfl
  | succ j=>rw[List.getElem?_cons_succ,b j (by omega),Nat.add_right_comm,Nat.add_assoc]
def zOo(m:Nat)(ks:List Nat)(st:St):Option St :=
 match qPe (xI st.heap 4 (wV (qBc st.tm ks) (qDa 0 m))) st.tm ks,qFe (xI st.heap 4 (wV (qBc st.tm ks) (qDa 0 m))) st.heap (xI st.heap 4 (wV (qBc st.tm ks) (qDa 0 m))) with
 | some tm,some h=>bif xA (xI st.heap 4 (wV (qBc st.tm ks) (qDa 0 m)))&&qXi 0 m (xI st.heap 4 (wV (qBc st.tm ks) (qDa 0 m))) then some ⟨tm,h⟩ else none
 | _,_=>none
theorem zEx(hF:zP F){m:Nat}(hm:w0.m=m){k:List It}{st st':St}{ks:List Nat}(h:zOo m ks st=some st')(hk:Ok P B n F w0 fin k st'):Ok P B n F w0 fin k st:=by
 unfold zOo at h
 split at h
 ·rename_i tm hh h1 h2
  generalize hπ:xI st.heap 4 (wV (qBc st.tm ks) (qDa 0 m))=π at h h1 h2
  cases hb:xA π&&qXi 0 m π with
  | false=>rw[hb] at h; cases h
  | true =>
   rw[hb] at h
   rw[Bool.and_eq_true] at hb
   obtain⟨hb,hb2⟩:=hb
   obtain⟨p1,p2⟩:=qIt m 0 π hb2
   simp only[cond_true,sI] at h
   subst h
   intro e a w S T
   obtain⟨l1,l2⟩:=xJ π st.heap π h2
   refine hk (zU π e) a w (S.ren hF π hb ⟨by rw[l1,hm]; exact p1,fun i hi=>by rw[p2 i (by omega),Nat.zero_add]⟩ (fun i x hx=>(l2 i x hx).1) (fun i x hx=>by rw[l1]; exact(l2 i x hx).2)) ⟨T.size,T.defers,fun t s hs=>?_,fun t s hs=>?_⟩
   ·rw[qJy]
    exact T.get t _ (qAx π st.tm ks h1 t s hs).1
   ·rw[l1]
    exact(qAx π st.tm ks h1 t s hs).2
 ·cases h

/-! ### the same objects, told otherwise -/
theorem qP.conv(hF:zP F){h h':List HO}{e:Env}{w:World}(S:qP F w0 h e w)(hl:h'.length=h.length)(hH:∀(i:Nat) (x':HO),h'[i]?=some x'→∃ x:HO,h[i]?=some x∧x'.own e i=x.own e i∧(x.sat e (mem w e h) i w→x'.sat e (mem w e h) i w)∧(x.ws h.length→x'.ws h.length)):qP F w0 h' e w:=by
 have hM:(mem w e h).le (mem w e h'):=by
  intro b o hb
  unfold mem at hb ⊢
  split at hb
  ·cases hb
  ·rename_i hno
   rw[if_neg,hb]
   rintro⟨i,x,hx,hb2⟩
   obtain⟨y,h1,h2,_⟩:=hH i x hx
   rw[h2] at hb2
   exact hno ⟨i,y,h1,hb2⟩
 refine⟨S.os,S.tape,S.output,?_,?_,?_,hF _ _ hM S.fact,?_,S.zlt,S.ez,by rw[hl]; exact S.pin⟩
 ·intro i x hx
  obtain⟨y,h1,_,h3,_⟩:=hH i x hx
  exact qLz hM (fun _ _=>rfl) (h3 (S.sat i y h1))
 ·intro i x hx
  obtain⟨y,h1,_,_,h4⟩:=hH i x hx
  rw[hl]
  exact h4 (S.ws i y h1)
 ·intro i j x x2 b hx hx2 hb hb2
  obtain⟨y,h1,h2,_⟩:=hH i x hx
  obtain⟨y2,k1,k2,_⟩:=hH j x2 hx2
  rw[h2] at hb
  rw[k2] at hb2
  exact S.one i j y y2 b h1 k1 hb hb2
 ·intro i x b hx hb
  obtain⟨y,h1,h2,_⟩:=hH i x hx
  rw[h2] at hb
  exact S.nz i y b h1 hb
def HE:HO→HO→Prop
 | .rowc T sz n c,.rowc T' sz' n' c'=>T=T'∧sz=sz'∧n=n'∧∀ k,k<n→∀ j,j<sz→c.at k j=c'.at k j
 | .ext b (.s pt sz n c),.ext b' (.s pt' sz' n' c')=>b=b'∧pt=pt'∧sz=sz'∧n=n'∧∀ k,k<n→∀ j,j<sz→c k j=c' k j
 | a,b=>a=b
def HEs:List HO→List HO→Prop
 | [],[]=>True
 | a::r,b::t=>HE a b∧HEs r t
 | _,_=>False
theorem HE.refl(a:HO):HE a a:=by
 cases a with
 | ext b c=>cases c <;> simp [HE]
 | _=>simp [HE]
theorem HEs.refl:∀(l:List HO),HEs l l
 | []=>trivial
 | a::r=>⟨HE.refl a,HEs.refl r⟩
theorem HE.spec{a b:HO}(h:HE a b):(∃ T sz n c c',a=.rowc T sz n c∧b=.rowc T sz n c'∧∀ k,k<n→∀ j,j<sz→c.at k j=c'.at k j)∨(∃ b0 pt sz n c c',a=.ext b0 (.s pt sz n c)∧b=.ext b0 (.s pt sz n c')∧∀ k,k<n→∀ j,j<sz→c k j=c' k j)∨a=b:=by
 cases a with
 | rowc T sz n c =>
  cases b with
  | rowc T' sz' n' c' =>
   obtain⟨rfl,rfl,rfl,h4⟩:=h
   exact .inl ⟨_,_,_,_,_,rfl,rfl,h4⟩
  | _=>exact .inr (.inr h)
 | ext b0 c =>
  cases c with
  | s pt sz n c =>
   cases b with
   | ext b1 c1 =>
    cases c1 with
    | s pt' sz' n' c' =>
     obtain⟨rfl,rfl,rfl,rfl,h4⟩:=h
     exact .inr (.inl ⟨_,_,_,_,_,_,rfl,rfl,h4⟩)
    | _=>exact .inr (.inr h)
   | _=>exact .inr (.inr h)
  | _=>exact .inr (.inr h)
 | _=>exact .inr (.inr h)
theorem qXw{M:Mem}{f:yC→Value}{pt:Bool}{sz n:Nat}{c c':Nat→Nat→qB}{p:yC}(hc:∀ k,k<n→∀ j,j<sz→c k j=c' k j)(h:wQ M f (.s pt sz n c) p):wQ M f (.s pt sz n c') p:=by
 obtain⟨oa,h1,h2⟩:=h
 refine⟨oa,h1,h2.imp id fun⟨ad,h3,h4⟩=>⟨ad,h3,fun k hk j hj=>?_⟩⟩
 rw[← hc k hk j hj]
 exact h4 k hk j hj
theorem qGd:∀ {h h':List HO},HEs h h'→h'.length=h.length∧∀(i:Nat) (x':HO),h'[i]?=some x'→∃ x,h[i]?=some x∧HE x x'
 | [],[],_=>⟨rfl,fun i x hx=>(by cases hx)⟩
 | a::r,b::t,⟨h1,h2⟩=>by
  obtain⟨l1,l2⟩:=qGd h2
  refine⟨by simp [l1],fun i x hx=>?_⟩
  cases i with
  | zero =>
   simp only[List.getElem?_cons_zero,sI] at hx
   subst hx
   exact⟨a,rfl,h1⟩
  | succ i=>simpa using l2 i x (by simpa using hx)
 | [],_::_,h=>h.elim
 | _::_,[],h=>h.elim
theorem qP.eqv(hF:zP F){h h':List HO}{e:Env}{w:World}(S:qP F w0 h e w)(hh:HEs h h'):qP F w0 h' e w:=by
 obtain⟨l1,l2⟩:=qGd hh
 refine S.conv hF l1 fun i x' hx'=>?_
 obtain⟨x,h1,h2⟩:=l2 i x' hx'
 refine⟨x,h1,?_⟩
 rcases h2.spec with ⟨T,sz,n,c,c',rfl,rfl,h4⟩ | ⟨b0,pt,sz,n,c,c',rfl,rfl,h4⟩ | rfl
 ·refine⟨rfl,fun hs=>?_,fun _=>trivial⟩
  obtain⟨qR,v1,v2,v3⟩:=hs
  refine⟨qR,v1,v2,fun k hk j hj=>?_⟩
  rw[← h4 k hk j hj]
  exact v3 k hk j hj
 ·exact⟨rfl,fun hs=>qXw h4 hs,fun _=>trivial⟩
 ·exact⟨rfl,id,id⟩
theorem Ok.eqv(hF:zP F){k:List It}{tm:List (Nat×SV)}{h h':List HO}(hh:HEs h h')(hk:Ok P B n F w0 fin k ⟨tm,h'⟩):Ok P B n F w0 fin k ⟨tm,h⟩:=by
 intro e a w S T
 have hl:=(qGd hh).1
 exact hk e a w (S.eqv hF hh) ⟨T.size,T.defers,T.get,fun t s hs=>by show ws h'.length s; rw[hl]; exact T.wsc t s hs⟩
def zIb(h:List HO)(ho:HO):HO :=
 match ho with
 | .row T sz n xs=>match wJ h xs with
  | some (l,[])=>.rowc T sz n (.lit sz l)
  | _=>.row T sz n xs
 | ho=>ho
theorem qP.rows(hF:zP F){h:List HO}{e:Env}{w:World}(S:qP F w0 h e w):qP F w0 (h.map (zIb h)) e w:=by
 refine S.conv hF (by simp) fun i x' hx'=>?_
 rw[List.getElem?_map,Option.map_eq_some_iff] at hx'
 obtain⟨x,hx,rfl⟩:=hx'
 refine⟨x,hx,?_⟩
 cases x with
 | row T sz n xs =>
  simp only[zIb]
  split
  ·rename_i l hl
   refine⟨rfl,fun hs=>?_,fun _=>trivial⟩
   obtain⟨v1,v2⟩:=hs
   exact⟨qN e xs,v1,v2,qRk S.q hl (fun x hx=>by cases hx) v1.1⟩
  ·exact⟨rfl,id,id⟩
 | _=>exact⟨rfl,id,id⟩
def qPh(st:St):List (Nat×TypeId×Nat)→St
 | []=>st
 | (t,T,sz)::r=>qPh (match lk st.tm t with
  | some (.v (.slice none 0 0))=>⟨(t,.o st.heap.length)::del st.tm t,st.heap++[.rowc T sz 0 (.lit 1 [])]⟩
  | _=>st) r
theorem qPl(hF:zP F){k:List It}:∀(l:List (Nat×TypeId×Nat)) {st:St},Ok P B n F w0 fin k (qPh st l)→Ok P B n F w0 fin k st
 | [],st,h=>h
 | (t,T,sz)::r,st,h=>by
  simp only[qPh] at h
  have h1:=qPl hF r h
  split at h1
  ·rename_i ht
   intro e a w S T'
   have hag:=zO e st.heap.length (.slice none 0 0)
   have S1:qP F w0 (st.heap++[.rowc T sz 0 (.lit 1 [])]) (e.setR st.heap.length (.slice none 0 0)) w :=
    S.newRowc hF (w':=w) T sz 0 _ (.slice none 0 0) (fun _=>⟨[],World.ownsRow_nil w 0 T sz,fun u hu=>(by cases hu),fun k hk=>by omega⟩) (fun b hb=>by cases hb) ⟨rfl,rfl,rfl,Nat.le_refl _,fun _ _ _=>rfl⟩
   refine h1 _ a w S1 ⟨T'.size,T'.defers,fun u s hs=>?_,fun u s hs=>?_⟩
   ·simp only[lk] at hs
    cases hb:Nat.beq t u with
    | true =>
     rw[hb] at hs
     simp only[cond_true,sI] at hs
     subst hs
     have:=Nat.eq_of_beq_eq_true hb
     subst this
     have:=T'.get t _ ht
     simp only[den] at this ⊢
     rw[this]
     simp [Env.setR]
    | false =>
     rw[hb] at hs
     simp only[cond_false] at hs
     rw[qAg _ _ _ (fun hh=>by subst hh; simp at hb)] at hs
     rw[jJ hag s (T'.wsc u s hs)]
     exact T'.get u s hs
   ·simp only[lk] at hs
    cases hb:Nat.beq t u with
    | true =>
     rw[hb] at hs
     simp only[cond_true,sI] at hs
     subst hs
     simp [ws]
    | false =>
     rw[hb] at hs
     simp only[cond_false] at hs
     rw[qAg _ _ _ (fun hh=>by subst hh; simp at hb)] at hs
     exact yO (by simp) s (T'.wsc u s hs)
  ·exact h1
def qWh(m:Nat)(ks:List Nat)(nl:List (Nat×TypeId×Nat))(st:St):Option St :=
 zOo m ks ⟨(qPh st nl).tm,(qPh st nl).heap.map (zIb (qPh st nl).heap)⟩
theorem qXj(hF:zP F){m:Nat}(hm:w0.m=m){k:List It}{st st':St}{ks:List Nat}{nl:List (Nat×TypeId×Nat)}(h:qWh m ks nl st=some st')(hk:Ok P B n F w0 fin k st'):Ok P B n F w0 fin k st:=by
 refine qPl hF nl ?_
 have:=zEx hF hm h hk
 intro e a w S T
 exact this e a w (S.rows hF) ⟨T.size,T.defers,T.get,fun t s hs=>by show ws (List.map _ _).length s; rw[List.length_map]; exact T.wsc t s hs⟩
end
end Go.Sx
/- Calls: what a function does, told of what its arguments reach. -/
namespace Go.Sx
open Go.RowKit

def zFf(B:Code):It→Bool
 | .one p _ _ i=>match sub B p with
  | .region _ ops _=>qJh ops i
  | _=>true
 | _=>false
def qBk(fn:Func):Code:=fn.body.getD .skip
def zAv(Q:SV→List HO→Prop)(F:Mem→Prop)(w0:wO):Ending→World→Prop :=
 fun E w'=>∃ e' r h',Q r h'∧ws h'.length r∧qP F w0 h' e' w'∧E=.returned (den e' r)
def zX(P:Program)(m:Nat)(fn:Func)(Q:SV→List HO→Prop)(k:List It)(st:St):Prop :=
 ∀ F,zP F→∀ w0:wO,w0.m=m→Ok P (qBk fn) fn.ntmps F w0 (bodyPost P fn (zAv Q F w0)) k st
abbrev FOk(P:Program)(fn:Func)(Q:SV→List HO→Prop)(k:List It)(st:St):Prop:=zX P 0 fn Q k st
def zS(P:Program)(m:Nat)(f:FuncId)(args:List SV)(h:List HO)(Q:SV→List HO→Prop):Prop :=
 ∀ F,zP F→∀(w0:wO) (e:Env),w0.m=m→qP F w0 h e w0.w→wsL h.length args→Calls P f (qN e args).toArray w0.w (zAv Q F w0)
abbrev qI(P:Program)(f:FuncId)(args:List SV)(h:List HO)(Q:SV→List HO→Prop):Prop:=zS P 0 f args h Q
theorem qI.mono{P:Program}{m:Nat}{f:FuncId}{args:List SV}{h:List HO}{Q Q':SV→List HO→Prop}(k:zS P m f args h Q)(hq:∀ r h',Q r h'→Q' r h'):zS P m f args h Q':=by
 intro F hF w0 e h0 S hw
 refine(k F hF w0 e h0 S hw).mono fun E w' hE=>?_
 obtain⟨e',r,h',h1,h2⟩:=hE
 exact⟨e',r,h',hq r h' h1,h2⟩
theorem qI.args{P:Program}{m:Nat}{f:FuncId}{args:List SV}{h h':List HO}{Q:SV→List HO→Prop}(hh:HEs h h')(k:zS P m f args h' Q):zS P m f args h Q :=
 fun F hF w0 e h0 S hw=>k F hF w0 e h0 (S.eqv hF hh) (by rw[(qGd hh).1]; exact hw)
theorem qI.eqv{P:Program}{m:Nat}{f:FuncId}{args:List SV}{h h0:List HO}{r0:SV}(k:zS P m f args h fun r h'=>r=r0∧HEs h' h0):zS P m f args h fun r h'=>r=r0∧h'=h0:=by
 intro F hF w0 e hm0 S hw
 refine(k F hF w0 e hm0 S hw).mono fun E w' hE=>?_
 obtain⟨e',r,h',⟨rfl,h1⟩,h2,h3,h4⟩:=hE
 exact⟨e',r,h0,⟨rfl,rfl⟩,by rw[(qGd h1).1]; exact h2,h3.eqv hF h1,h4⟩
section
variable {P : Program} {X : Ext P} {B : Code} {n : Nat} {F : Mem → Prop} {w0 : wO} {fin : Exit → Act → World → Prop}

/-! ### results -/
def gcS(m:Nat)(s:SV)(h:List HO):Option (SV×List HO) :=
 match qCc (xI h 4 (qJb s (qDa 0 m))) s,qFe (xI h 4 (qJb s (qDa 0 m))) h (xI h 4 (qJb s (qDa 0 m))) with
 | some s',some h'=>bif xA (xI h 4 (qJb s (qDa 0 m)))&&qXi 0 m (xI h 4 (qJb s (qDa 0 m))) then some (s',h') else none
 | _,_=>none
theorem qPn(hF:zP F){m:Nat}(hm:w0.m=m){h h':List HO}{e:Env}{w:World}(S:qP F w0 h e w){s s':SV}(hg:gcS m s h=some (s',h')):∃ e',qP F w0 h' e' w∧den e' s'=den e s∧ws h'.length s':=by
 unfold gcS at hg
 split at hg
 ·rename_i s1 h1 q1 q2
  generalize hπ:xI h 4 (qJb s (qDa 0 m))=π at hg q1 q2
  cases hb:xA π&&qXi 0 m π with
  | false=>rw[hb] at hg; cases hg
  | true =>
   rw[hb] at hg
   rw[Bool.and_eq_true] at hb
   obtain⟨hb,hb2⟩:=hb
   obtain⟨p1,p2⟩:=qIt m 0 π hb2
   simp only[cond_true,sI,pI] at hg
   obtain⟨rfl,rfl⟩:=hg
   obtain⟨l1,l2⟩:=xJ π h π q2
   obtain⟨a,b⟩:=qCh π s q1
   exact⟨zU π e,S.ren hF π hb ⟨by rw[l1,hm]; exact p1,fun i hi=>by rw[p2 i (by omega),Nat.zero_add]⟩ (fun i x hx=>(l2 i x hx).1) (fun i x hx=>by rw[l1]; exact(l2 i x hx).2),by rw[qJy,a],by rw[l1]; exact b⟩
 ·cases hg
def qPm(P:Program)(m:Nat)(rs:List ResultVar)(st:St):Option (SV×List HO) :=
 match zNx P st rs with
 | some s=>gcS m s (st.heap.map (zIb st.heap))
 | none=>none
theorem qOd{m:Nat}(hm:w0.m=m){fn:Func}{Q:SV→List HO→Prop}{st:St}{r:SV}{h':List HO}(hr:qPm P m fn.results.toList st=some (r,h'))(hq:Q r h')(hF:zP F){e:Env}{a:Act}{w:World}(S:qP F w0 st.heap e w)(T:zA fn.ntmps st.heap.length st.tm e a):
  bodyPost P fn (zAv Q F w0) .ret a w∧bodyPost P fn (zAv Q F w0) .normal a w:=by
 unfold qPm at hr
 split at hr
 ·rename_i s hs
  obtain⟨e',S',hd,hw⟩:=qPn hF hm (S.rows hF) hr
  have:=qXd S T hs
  exact⟨⟨T.defers,_,this,e',r,h',hq,hw,S',by rw[hd]⟩,⟨T.defers,_,this,e',r,h',hq,hw,S',by rw[hd]⟩⟩
 ·cases hr
theorem FOk.ret{m:Nat}{fn:Func}{Q:SV→List HO→Prop}{st:St}{k:List It}{r:SV}{h':List HO}(hr:qPm P m fn.results.toList st=some (r,h'))(hq:Q r h'):zX P m fn Q (.ret::k) st:=by
 intro F hF w0 hm e a w S T
 simp only[jD,zEd]
 exact(qOd hm hr hq hF S T).1
theorem FOk.done{m:Nat}{fn:Func}{Q:SV→List HO→Prop}{st:St}{r:SV}{h':List HO}(hr:qPm P m fn.results.toList st=some (r,h'))(hq:Q r h'):zX P m fn Q [] st :=
 fun _ hF _ hm _ _ _ S T=>(qOd hm hr hq hF S T).2
theorem FOk.loop{m:Nat}{fn:Func}{Q:SV→List HO→Prop}{p:List Nat}{k:List It}{st:St}(d:Nat)(hs:(match sub (qBk fn) p with | .loop _=>true | _=>false)=true)(h:zX P m fn Q (.rnd (0::p) d::k) st):zX P m fn Q (.at p::k) st :=
 fun F hF w0 hm=>Ok.loop d hs (h F hF w0 hm)
theorem FOk.rnd{m:Nat}{fn:Func}{Q:SV→List HO→Prop}{q:List Nat}{d:Nat}{k:List It}{st:St}(h:zX P m fn Q (.at q::.rnd q d::k) st):zX P m fn Q (.rnd q (d+1)::k) st :=
 fun F hF w0 hm=>Ok.rnd (h F hF w0 hm)
theorem FOk.eqv{m:Nat}{fn:Func}{Q:SV→List HO→Prop}{k:List It}{tm:List (Nat×SV)}{h h':List HO}(hh:HEs h h')(hk:zX P m fn Q k ⟨tm,h'⟩):zX P m fn Q k ⟨tm,h⟩ :=
 fun F hF w0 hm=>Ok.eqv hF hh (hk F hF w0 hm)
theorem FOk.cv{m:Nat}{fn:Func}{Q:SV→List HO→Prop}{k:List It}{tm:List (Nat×SV)}{h h':List HO}(hk:zX P m fn Q k ⟨tm,h'⟩)(hh:HEs h h'):zX P m fn Q k ⟨tm,h⟩:=FOk.eqv hh hk
theorem qI.ac{m:Nat}{f:FuncId}{args:List SV}{h h':List HO}{Q:SV→List HO→Prop}(k:zS P m f args h' Q)(hh:HEs h h'):zS P m f args h Q:=qI.args hh k
theorem FOk.norm{m:Nat}{fn:Func}{Q:SV→List HO→Prop}{k:List It}{st st':St}{ks:List Nat}{nl:List (Nat×TypeId×Nat)}(h:qWh m ks nl st=some st')(hk:zX P m fn Q k st'):zX P m fn Q k st :=
 fun F hF w0 hm=>qXj hF hm h (hk F hF w0 hm)
def qQ:Nat→List SV→List (Nat×SV)
 | _,[]=>[]
 | i,v::r=>(i,v)::qQ (i+1) r
theorem qKz:∀(l:List SV) (i t:Nat) (s:SV),lk (qQ i l) t=some s→i≤t∧l[t-i]?=some s
 | [],i,t,s,h=>by cases h
 | v::r,i,t,s,h=>by
  simp only[qQ,lk] at h
  cases hb:Nat.beq i t with
  | true =>
   rw[hb] at h
   simp only[cond_true,sI] at h
   subst h
   have:=Nat.eq_of_beq_eq_true hb
   subst this
   exact⟨Nat.le_refl _,by simp⟩
  | false =>
   rw[hb] at h
   obtain⟨h2,h3⟩:=qKz r (i+1) t s h
   refine⟨by omega,?_⟩
   rw[show t-i=(t-(i+1))+1 by omega,List.getElem?_cons_succ]
   exact h3
theorem qL{m:Nat}{f:FuncId}{fn:Func}{Q:SV→List HO→Prop}{args:List SV}{h:List HO}(hf:P.funcs[f]?=some fn)(hb:fn.body.isSome=true)(hle:Nat.ble args.length fn.ntmps=true)(hk:zX P m fn Q [.at []] ⟨qQ 0 args,h⟩):zS P m f args h Q:=by
 intro F hF w0 e hm S hw
 obtain⟨B,hb⟩:=Option.isSome_iff_exists.1 hb
 have hle':args.length≤fn.ntmps:=Nat.le_of_ble_eq_true hle
 refine calls_of_wp hf hb ?_
 have:=hk F hF w0 hm e { tmps:=(qN e args).toArray++Array.replicate (fn.ntmps-(qN e args).toArray.size) undef,defers:=[] } w0.w S ⟨?_,rfl,?_,?_⟩
 ·have hB:qBk fn=B:=by simp [qBk,hb]
  rw[hB] at this
  simpa[jD,sub] using this
 ·simp [qS]
  omega
 ·intro t s hs
  obtain⟨_,hv⟩:=qKz args 0 t s hs
  simp only[Nat.sub_zero] at hv
  have hlt:=(List.getElem?_eq_some_iff.1 hv).1
  rw[Array.getElem?_append_left (by simpa[qS] using hlt)]
  simp [yM,hv]
 ·intro t s hs
  obtain⟨_,hv⟩:=qKz args 0 t s hs
  exact(yP _ _).1 hw s (List.mem_of_getElem? hv)

/-! ### what is lent to a call -/
def qHc(h:List HO)(s:SV):Option (qB×List zF) :=
 match s with
 | .x i p=>match h[i]? with
  | some (.ext _ c0)=>match yF c0 p with
   | some c=>some (c,xC (pvs c0 p))
   | none=>none
  | _=>none
 | .o j=>match h[j]? with
  | some (.rowc _ sz n c)=>some (.s false sz n c.at,[])
  | some (.row _ sz n xs)=>match wJ h xs with
   | some (l,sd)=>some (.s false sz n (lc sz l),sd)
   | none=>none
  | _=>none
 | s=>match jR s with
  | some x=>bif qJl h (.v x) then some (.v x,[]) else none
  | none=>none
def qDf(h:List HO):List SV→Option (List qB×List zF)
 | []=>some ([],[])
 | s::r=>match qHc h s,qDf h r with
  | some (c,s1),some (l,s2)=>some (c::l,s1++s2)
  | _,_=>none
theorem qVj{M:Mem}{e:Env}{h:List HO}{w:World}(hM:∀ b o,w.heap[b]?=some o→M b=some o){v:Value}{T:TypeId}{sz n:Nat}{c:Nat→Nat→qB}{qR:List Value}(h1:w.ownsRow 0 T sz v n qR)(h2:yA ((mem w e h).sub e.z) sz n c qR):yV M v (.s false sz n c):=by
 have hle:((mem w e h).sub e.z).le M:=fun b o hb=>hM b o (jH w e h b o (Mem.sub_le _ _ b o hb))
 obtain⟨hl,h1⟩:=h1
 rcases h1 with ⟨hv,hn⟩ | ⟨g,cap,cur,hv,_,hg,hnc,_,hcs,ht⟩
 ·subst hn
  exact xV none 0 hv (Nat.le_refl _) (.inl rfl) (qY hle h2)
 ·refine xV (some ⟨g,0,none⟩) cap hv hnc (.inr ⟨_,rfl,fun d u hd hu=>?_⟩) (qY hle h2)
  rw[Addr.add_lit]
  unfold Mem.cell?
  simp only[hM g _ hg]
  rw[← ht,List.getElem?_take,if_pos hd] at hu
  simpa using hu
theorem qFb{h:List HO}{e:Env}{w:World}(S:qP F w0 h e w){s:SV}{c:qB}{sd:List zF}(hc:qHc h s=some (c,sd))(hsd:∀ x∈sd,x (mem w e h)):
  yV (xD w) (den e s) c∧(den e s).oneCell'=true:=by
 have key:∀ s0:SV,(match jR s0 with
  | some x=>bif qJl h (.v x) then some (qB.v x,([]:List zF)) else none
  | none=>none)=some (c,sd)→yV (xD w) (den e s0) c∧(den e s0).oneCell'=true:=by
  intro s0 hh
  cases hp:jR s0 with
  | none=>rw[hp] at hh; cases hh
  | some x =>
   rw[hp] at hh
   simp only at hh
   cases ho:qJl h (.v x) with
   | false=>rw[ho] at hh; cases hh
   | true =>
    rw[ho] at hh
    simp only[cond_true,sI,pI] at hh
    obtain⟨rfl,rfl⟩:=hh
    rw[jF e s0 hp]
    have:=qFp S.q ho
    exact⟨qFt this,this⟩
 cases s with
 | x i p =>
  simp only[qHc] at hc
  split at hc
  ·rename_i b0 c0 hi
   split at hc
   ·rename_i c1 hc1
    simp only[sI,pI] at hc
    obtain⟨rfl,rfl⟩:=hc
    exact⟨qBw (jH w e h) (qHo (qCv S.q hi hc1 (zQ hsd))),e.one i p⟩
   ·cases hc
  ·cases hc
 | o j =>
  have h1:qJf h[j]?=true→(e.row j).oneCell'=true:=fun hr=>by
   obtain⟨oa,n',cap,hv⟩:=wG S.q hr
   rw[hv]; rfl
  simp only[qHc] at hc
  split at hc
  ·rename_i T sz n c1 hj
   simp only[sI,pI] at hc
   obtain⟨rfl,rfl⟩:=hc
   obtain⟨qR,v1,v2,v3⟩:=S.sat j _ hj
   exact⟨qVj (fun _ _ hb=>hb) v1 v3,h1 (by rw[hj]; rfl)⟩
  ·rename_i T sz n xs hj
   split at hc
   ·rename_i l s1 hl
    simp only[sI,pI] at hc
    obtain⟨rfl,rfl⟩:=hc
    obtain⟨v1,v2⟩:=S.sat j _ hj
    exact⟨qVj (fun _ _ hb=>hb) v1 (qRk S.q hl hsd v1.1),h1 (by rw[hj]; rfl)⟩
   ·cases hc
  ·cases hc
 | _=>exact key _ hc
theorem qDt{h:List HO}{e:Env}{w:World}(S:qP F w0 h e w):∀(l:List SV) {cs:List qB} {sd:List zF},qDf h l=some (cs,sd)→(∀ x∈sd,x (mem w e h)) →
  cs.length=l.length∧∀(d:Nat) (c:qB),cs[d]?=some c→∃ u,(qN e l)[d]?=some u∧yV (xD w) u c
 | [],cs,sd,hc,_=>by
  simp only[qDf,sI,pI] at hc
  obtain⟨rfl,rfl⟩:=hc
  exact⟨rfl,fun d c hd=>(by cases hd)⟩
 | s::r,cs,sd,hc,hs=>by
  simp only[qDf] at hc
  split at hc
  ·rename_i c s1 l s2 h1 h2
   simp only[sI,pI] at hc
   obtain⟨rfl,rfl⟩:=hc
   obtain⟨a1,a2⟩:=qFb S h1 fun x hx=>hs x (List.mem_append_left _ hx)
   obtain⟨b1,b2⟩:=qDt S r h2 fun x hx=>hs x (List.mem_append_right _ hx)
   refine⟨by simp [b1],fun d c' hd=>?_⟩
   cases d with
   | zero =>
    simp only[List.getElem?_cons_zero,sI] at hd
    subst hd
    exact⟨den e s,rfl,a1⟩
   | succ d=>exact b2 d c' (by simpa using hd)
  ·cases hc
theorem zCt{M:Mem}{ad:Addr}{l:List qB}{ds:List Value}(hc:∀(d:Nat) (u:Value),ds[d]?=some u→M.cell? (ad.add d)=some u)(hr:∀(d:Nat) (c:qB),l[d]?=some c→∃ u,ds[d]?=some u∧yV M u c):
  yV M (.pointer (some ad)) (.s true l.length 1 (lc l.length l)):=by
 classical
 have hrow:yA M l.length 1 (lc l.length l) ds:=by
  intro k hk j hj
  have hk0:k=0:=by omega
  subst hk0
  obtain⟨u,h1,h2⟩:=hr j l[j] (List.getElem?_eq_getElem hj)
  refine⟨u,by simpa using h1,?_⟩
  unfold lc
  rw[Nat.zero_mul,Nat.zero_add,List.getD_eq_getElem?_getD,List.getElem?_eq_getElem hj]
  exact h2
 obtain⟨f,f1,f2,oa,⟨cap,f3,_⟩,f4⟩:=xV (M:=M) (v:=.slice (some ad) 1 1) (some ad) 1 rfl (Nat.le_refl _) (.inr ⟨ad,rfl,fun d u _ hu=>hc d u hu⟩) hrow
 refine⟨fun p=>match p with | []=>.pointer (some ad) | x::q=>f (x::q),fun p=>?_,rfl,some ad,rfl,?_⟩
 ·cases p with
  | nil=>rfl
  | cons x q=>exact f1 _
 ·rcases f4 with h0 | ⟨ad',hoa,f5⟩
  ·cases h0
  ·rw[f2] at f3
   cases f3
   cases hoa
   refine .inr ⟨ad,rfl,fun k hk j hj=>?_⟩
   obtain⟨g1,g2⟩:=f5 k hk j hj
   refine⟨g1,?_⟩
   have:=(xH (M:=M) f [(l.length,k,j)] (lc l.length l k j) []).2 (by simpa using g2)
   have:=(xH (M:=M) (fun p=>match p with | []=>Value.pointer (some ad) | x::q=>f (x::q)) [(l.length,k,j)] (lc l.length l k j) []).1 this
   simpa using this
mutual
def brw (h : List HO) (n : Nat) : SV → Option (SV × List HO × List zF)
  | .v x => some (.v x, [], [])
  | .bl b => some (.v (.bool b), [], [])
  | .x i p => match h[i]? with
    | some (.ext b c0) => match yF c0 p with
      | some c => some (.x n [], [.ext b c], xC (pvs c0 p))
      | none => none
    | _ => none
  | .o j => match qHc h (.o j) with
    | some (c, sd) => some (.x n [], [.ext true c], sd)
    | none => none
  | .p j off => match h[j]? with
    | some (.cells cs _) => match qDf h (cs.drop off) with
      | some (l, sd) => some (.x n [], [.ext true (.s true l.length 1 (lc l.length l))], sd)
      | none => none
    | _ => none
  | .agg cs => match qNi h n cs with | some (l, hs, sd) => some (.agg l, hs, sd) | none => none
  | .fn f a c => match a, qNi h n c with | [], some (l, hs, sd) => some (.fn f [] l, hs, sd) | _, _ => none
  | .ifc t y => match brw h n y with | some (l, hs, sd) => some (.ifc t l, hs, sd) | none => none
  | _ => none
def qNi (h : List HO) (n : Nat) : List SV → Option (List SV × List HO × List zF)
  | [] => some ([], [], [])
  | s :: r => match brw h n s with
    | some (s', h1, s1) => match qNi h (n + h1.length) r with
      | some (l, h2, s2) => some (s' :: l, h1 ++ h2, s1 ++ s2)
      | none => none
    | none => none
end
def qIq(M Mz:Mem)(n:Nat)(hs:List HO)(den1:Env→Prop):Prop :=
 ∃ fs:List {f:yC→Value // ∀ p,(f p).oneCell'=true},fs.length=hs.length∧(∀(i:Nat) (x:HO),hs[i]?=some x→∃ b c f,x=.ext b c∧fs[i]?=some f∧wQ (if b then M else Mz) f.1 c []) ∧
  ∀ e1:Env,(∀(i:Nat) (f:{f:yC→Value // ∀ p,(f p).oneCell'=true}),fs[i]?=some f→e1.val (n+i)=f.1)→den1 e1
theorem qIq.none{M Mz:Mem}{n:Nat}{d:Env→Prop}(h:∀ e1,d e1):qIq M Mz n [] d:=⟨[],rfl,fun i x hx=>(by cases hx),fun e1 _=>h e1⟩
theorem qIq.one{M Mz:Mem}{n:Nat}{b:Bool}{c:qB}{u:Value}{d:Env→Prop}(h:yV (if b then M else Mz) u c)(hd:∀ e1:Env,e1.val n []=u→d e1):qIq M Mz n [.ext b c] d:=by
 obtain⟨f,f1,f2,f3⟩:=h
 refine⟨[⟨f,f1⟩],rfl,fun i x hx=>?_,fun e1 he=>hd e1 ?_⟩
 ·cases i with
  | zero=>simp only[List.getElem?_cons_zero,sI] at hx; subst hx; exact⟨b,c,⟨f,f1⟩,rfl,rfl,f3⟩
  | succ i=>cases hx
 ·have:=he 0 ⟨f,f1⟩ rfl
  rw[Nat.add_zero] at this
  rw[this]; exact f2
theorem qIq.append{M Mz:Mem}{n:Nat}{h1 h2:List HO}{d1 d2 d:Env→Prop}(a:qIq M Mz n h1 d1)(b:qIq M Mz (n+h1.length) h2 d2)(hd:∀ e1,d1 e1→d2 e1→d e1):qIq M Mz n (h1++h2) d:=by
 obtain⟨f1,a1,a2,a3⟩:=a
 obtain⟨f2,b1,b2,b3⟩:=b
 refine⟨f1++f2,by simp [a1,b1],fun i x hx=>?_,fun e1 he=>hd e1 (a3 e1 fun i f hf=>he i f ?_) (b3 e1 fun i f hf=>?_)⟩
 ·rw[List.getElem?_append] at hx
  split at hx
  ·rename_i hlt
   obtain⟨b,c,f,q1,q2,q3⟩:=a2 i x hx
   exact⟨b,c,f,q1,by rw[List.getElem?_append_left (by omega)]; exact q2,q3⟩
  ·rename_i hge
   obtain⟨b,c,f,q1,q2,q3⟩:=b2 _ x hx
   exact⟨b,c,f,q1,by rw[List.getElem?_append_right (by omega),a1]; exact q2,q3⟩
 ·rw[List.getElem?_append_left (List.getElem?_eq_some_iff.1 hf).1]; exact hf
 ·have:=he (h1.length+i) f (by rw[List.getElem?_append_right (by omega),a1]; simpa using hf)
  rwa [← Nat.add_assoc] at this
theorem qIq.imp{M Mz:Mem}{n:Nat}{hs:List HO}{d d':Env→Prop}(a:qIq M Mz n hs d)(h:∀ e1,d e1→d' e1):qIq M Mz n hs d':=by
 obtain⟨f1,a1,a2,a3⟩:=a
 exact⟨f1,a1,a2,fun e1 he=>h e1 (a3 e1 he)⟩
mutual
theorem qOn {h : List HO} {e : Env} {w : World} (S : qP F w0 h e w) : ∀ (s : SV) (n : Nat) {s' : SV} {hs : List HO} {sd : List zF}, brw h n s = some (s', hs, sd) → (∀ x ∈ sd, x (mem w e h)) →
    qIq (xD w) ((mem w e h).sub e.z) n hs (fun e1 => den e1 s' = den e s) ∧ ws (n + hs.length) s'
  | .v x, n, s', hs, sd, hq, _ => by simp only [brw, Option.some.injEq, Prod.mk.injEq] at hq; obtain ⟨rfl, rfl, rfl⟩ := hq; exact ⟨.none fun _ => rfl, trivial⟩
  | .bl b, n, s', hs, sd, hq, _ => by simp only [brw, Option.some.injEq, Prod.mk.injEq] at hq; obtain ⟨rfl, rfl, rfl⟩ := hq; exact ⟨.none fun _ => rfl, trivial⟩
  | .x i p, n, s', hs, sd, hq, hsd => by
    simp only [brw] at hq
    split at hq
    · rename_i b c0 hi
      split at hq
      · rename_i c hc
        simp only [Option.some.injEq, Prod.mk.injEq] at hq
        obtain ⟨rfl, rfl, rfl⟩ := hq
        refine ⟨.one (u := e.val i p) ?_ fun e1 he => he, by simp [ws]⟩
        cases b with
        | true => exact qBw (jH w e h) (qHo (qCv S.q hi hc (zQ hsd)))
        | false => exact qHo (qJt S.q hi hc (zQ hsd))
      · cases hq
    · cases hq
  | .o j, n, s', hs, sd, hq, hsd => by
    simp only [brw] at hq
    split at hq
    · rename_i c sd1 hc
      simp only [Option.some.injEq, Prod.mk.injEq] at hq
      obtain ⟨rfl, rfl, rfl⟩ := hq
      exact ⟨.one (u := e.row j) (qFb S hc hsd).1 fun e1 he => he, by simp [ws]⟩
    · cases hq
  | .p j off, n, s', hs, sd, hq, hsd => by
    simp only [brw] at hq
    split at hq
    · rename_i cs T hj
      split at hq
      · rename_i l sd1 hc
        simp only [Option.some.injEq, Prod.mk.injEq] at hq
        obtain ⟨rfl, rfl, rfl⟩ := hq
        refine ⟨.one (u := .pointer (some ⟨e.blk j, off, none⟩)) ?_ fun e1 he => he, by simp [ws]⟩
        obtain ⟨_, l2⟩ := qDt S _ hc hsd
        refine zCt (ds := qN e (cs.drop off)) (fun d u hd => ?_) l2
        rw [Addr.add_lit]
        have := S.sat j _ hj
        simp only [HO.sat] at this
        rw [qIe, List.getElem?_drop] at hd
        have h2 : (xD w).cell? ⟨e.blk j, off + d, none⟩ = (qN e cs).toArray[off + d]? := by
          unfold Mem.cell? xD
          dsimp only
          rw [this]
          rfl
        refine h2.trans ?_
        simpa using hd
      · cases hq
    · cases hq
  | .agg cs, n, s', hs, sd, hq, hsd => by
    simp only [brw] at hq
    split at hq
    · rename_i l h1 s1 hl
      simp only [Option.some.injEq, Prod.mk.injEq] at hq
      obtain ⟨rfl, rfl, rfl⟩ := hq
      obtain ⟨a, b⟩ := qCm S cs n hl hsd
      exact ⟨a.imp fun e1 he => by simp only [den, he], b⟩
    · cases hq
  | .fn f a c, n, s', hs, sd, hq, hsd => by
    simp only [brw] at hq
    split at hq
    · rename_i l h1 s1 hl
      simp only [Option.some.injEq, Prod.mk.injEq] at hq
      obtain ⟨rfl, rfl, rfl⟩ := hq
      obtain ⟨a, b⟩ := qCm S c n hl hsd
      exact ⟨a.imp fun e1 he => by simp only [den, he, qN], trivial, b⟩
    · cases hq
  | .ifc t y, n, s', hs, sd, hq, hsd => by
    simp only [brw] at hq
    split at hq
    · rename_i l h1 s1 hl
      simp only [Option.some.injEq, Prod.mk.injEq] at hq
      obtain ⟨rfl, rfl, rfl⟩ := hq
      obtain ⟨a, b⟩ := qOn S y n hl hsd
      exact ⟨a.imp fun e1 he => by simp only [den, he], b⟩
    · cases hq
  | .q _ _, n, s', hs, sd, hq, _ => by cases hq
  | .m _, n, s', hs, sd, hq, _ => by cases hq
  | .sl _ _ _ _, n, s', hs, sd, hq, _ => by cases hq
  | .xp _ _ _ _ _, n, s', hs, sd, hq, _ => by cases hq
  | .qk _ _ _ _, n, s', hs, sd, hq, _ => by cases hq
  | .tup _, n, s', hs, sd, hq, _ => by cases hq
theorem qCm {h : List HO} {e : Env} {w : World} (S : qP F w0 h e w) : ∀ (l : List SV) (n : Nat) {l' : List SV} {hs : List HO} {sd : List zF}, qNi h n l = some (l', hs, sd) → (∀ x ∈ sd, x (mem w e h)) →
    qIq (xD w) ((mem w e h).sub e.z) n hs (fun e1 => qN e1 l' = qN e l) ∧ wsL (n + hs.length) l'
  | [], n, l', hs, sd, hq, _ => by simp only [qNi, Option.some.injEq, Prod.mk.injEq] at hq; obtain ⟨rfl, rfl, rfl⟩ := hq; exact ⟨.none fun _ => rfl, trivial⟩
  | s :: r, n, l', hs, sd, hq, hsd => by
    simp only [qNi] at hq
    split at hq
    · rename_i s1 h1 sd1 q1
      split at hq
      · rename_i l2 h2 sd2 q2
        simp only [Option.some.injEq, Prod.mk.injEq] at hq
        obtain ⟨rfl, rfl, rfl⟩ := hq
        obtain ⟨a1, a2⟩ := qOn S s n q1 fun x hx => hsd x (List.mem_append_left _ hx)
        obtain ⟨b1, b2⟩ := qCm S r (n + h1.length) q2 fun x hx => hsd x (List.mem_append_right _ hx)
        refine ⟨a1.append b1 fun e1 x y => by simp only [qN, x, y], yO (by rw [List.length_append]; omega) _ a2, ?_⟩
        rw [List.length_append, ← Nat.add_assoc]
        exact b2
      · cases hq
    · cases hq
end

/-! ### what comes back -/
mutual
def shS (m : Nat) : SV → SV
  | .v x => .v x
  | .bl b => .bl b
  | .p i off => .p (m + i) off
  | .o i => .o (m + i)
  | .q i off => .q (m + i) off
  | .m i => .m (m + i)
  | .sl i off len cap => .sl (m + i) off len cap
  | .x i p => .x (m + i) p
  | .xp i p sz k j => .xp (m + i) p sz k j
  | .qk i sz k j => .qk (m + i) sz k j
  | .agg cs => .agg (shL m cs)
  | .tup cs => .tup (shL m cs)
  | .fn f a c => .fn f (shL m a) (shL m c)
  | .ifc t y => .ifc t (shS m y)
def shL (m : Nat) : List SV → List SV
  | [] => []
  | x :: r => shS m x :: shL m r
end
def shH(m:Nat):HO→HO
 | .cells cs T=>.cells (shL m cs) T
 | .row T sz n xs=>.row T sz n (shL m xs)
 | .mp ag ks kl c=>.mp ag ks kl (c.map (shL m))
 | .tbl T0 T1 sz n c hole=>.tbl T0 T1 sz n c (hole.map fun x=>(x.1,m+x.2))
 | ho=>ho
def yB(m:Nat)(a b:Env):Env:=⟨fun i=>if i<m then a.blk i else b.blk (i-m),fun i=>if i<m then a.row i else b.row (i-m),fun i=>if i<m then a.val i else b.val (i-m),fun i p=>by
 split
 ·exact a.one i p
 ·exact b.one _ p,a.z⟩
theorem qId(m:Nat)(a b:Env):zD m a (yB m a b):=⟨fun i hi=>⟨by simp [yB,hi],by simp [yB,hi],by simp [yB,hi]⟩,rfl⟩
theorem wU(m:Nat)(a b:Env)(i:Nat):(yB m a b).blk (m+i)=b.blk i∧(yB m a b).row (m+i)=b.row i∧(yB m a b).val (m+i)=b.val i:=by
 have:¬ m+i<m:=by omega
 simp [yB,this]
mutual
theorem qXa (m : Nat) (a b : Env) : ∀ s, den (yB m a b) (shS m s) = den b s
  | .v x => rfl
  | .bl x => rfl
  | .p i off => by simp only [den, shS, (wU m a b i).1]
  | .o i => by simp only [den, shS, (wU m a b i).2.1]
  | .q i off => by simp only [den, shS, (wU m a b i).2.1]
  | .m i => by simp only [den, shS, (wU m a b i).1]
  | .sl i off len cap => by simp only [den, shS, (wU m a b i).1]
  | .x i p => by simp only [den, shS, (wU m a b i).2.2]
  | .xp i p sz k j => by simp only [den, shS, (wU m a b i).2.2]
  | .qk i sz k j => by simp only [den, shS, (wU m a b i).2.1]
  | .agg cs => by simp only [den, shS, qBa m a b cs]
  | .tup cs => by simp only [den, shS, qBa m a b cs]
  | .fn f x c => by simp only [den, shS, qBa m a b x, qBa m a b c]
  | .ifc t y => by simp only [den, shS, qXa m a b y]
theorem qBa (m : Nat) (a b : Env) : ∀ l, qN (yB m a b) (shL m l) = qN b l
  | [] => rfl
  | x :: r => by simp only [qN, shL, qXa m a b x, qBa m a b r]
end
mutual
theorem zEb (m n : Nat) : ∀ (s : SV), ws n s → ws (m + n) (shS m s)
  | .v _, _ => trivial
  | .bl _, _ => trivial
  | .p _ _, h => Nat.add_lt_add_left h m
  | .o _, h => Nat.add_lt_add_left h m
  | .q _ _, h => Nat.add_lt_add_left h m
  | .m _, h => Nat.add_lt_add_left h m
  | .sl _ _ _ _, h => Nat.add_lt_add_left h m
  | .x _ _, h => Nat.add_lt_add_left h m
  | .xp _ _ _ _ _, h => Nat.add_lt_add_left h m
  | .qk _ _ _ _, h => Nat.add_lt_add_left h m
  | .agg cs, h => qDh m n cs h
  | .tup cs, h => qDh m n cs h
  | .fn _ a c, h => ⟨qDh m n a h.1, qDh m n c h.2⟩
  | .ifc _ y, h => zEb m n y h
theorem qDh (m n : Nat) : ∀ (l : List SV), wsL n l → wsL (m + n) (shL m l)
  | [], _ => trivial
  | x :: r, h => ⟨zEb m n x h.1, qDh m n r h.2⟩
end
def qSo(h:List HO):Bool:=h.all fun x=>match x with | .ext true _=>false | _=>true
theorem zGo{m:Nat}{a b:Env}{M M':Mem}{i:Nat}{w:World}{x:HO}(hx:∀ c,x≠.ext true c)(hM:(M.sub b.z).le (M'.sub a.z))(h:x.sat b M i w):(shH m x).sat (yB m a b) M' (m+i) w:=by
 obtain⟨h1,h2,h3⟩:=wU m a b i
 cases x with
 | cells cs T =>
  simp only[HO.sat,shH] at h ⊢
  rw[qBa,h1]
  exact h
 | row T sz n xs =>
  simp only[HO.sat,shH] at h ⊢
  rw[qBa,h2]
  exact h
 | rowc T sz n c =>
  obtain⟨qR,v1,v2,v3⟩:=h
  simp only[HO.sat,shH]
  rw[h2]
  exact⟨qR,v1,v2,qY hM v3⟩
 | ext b0 c =>
  cases b0 with
  | true=>exact absurd rfl (hx c)
  | false =>
   simp only[HO.sat,shH] at h ⊢
   rw[h3]
   exact zT hM _ _ _ h
 | obj o =>
  simp only[HO.sat,shH] at h ⊢
  rw[h1]
  exact h
 | mp ag ks kl c =>
  have hc:(c.map (shL m)).den (yB m a b) kl.length=c.den b kl.length:=Mc.den_map _ _ _ _ c fun xs _=>qBa m a b xs
  simp only[HO.sat,shH,hc] at h ⊢
  rw[h1]
  exact h
 | tbl T0 T1 sz n c hole =>
  refine wI h2 h3 (fun k=>?_) (fun k=>qCx (fun q=>m+q) hole k) hM (fun _ _=>rfl) h
  cases hole with
  | none=>simp only[thd,Option.map_none,h3]
  | some x=>simp only[thd,Option.map_some,h3,(wU m a b x.2).2.1]
 | gone=>trivial
theorem qGz{m:Nat}{a b:Env}{i:Nat}{x:HO}:(shH m x).own (yB m a b) (m+i)=x.own b i:=by
 obtain⟨h1,h2,h3⟩:=wU m a b i
 cases x with
 | tbl T0 T1 sz n c hole=>funext q; simp only[HO.own,shH,h2,h3,qCx (fun q=>m+q)]
 | _=>funext q; simp [HO.own,shH,h1,h2]
theorem zKq{m n:Nat}{x:HO}(h:x.ws n):(shH m x).ws (m+n):=by
 cases x with
 | cells cs T=>exact qDh m n cs h
 | row T sz k xs=>exact qDh m n xs h
 | mp ag ks kl c=>exact Mc.ws_map n (m+n) (shL m) c (fun xs _=>qDh m n xs) h
 | tbl T0 T1 sz k c hole =>
  intro k2 m2 hk
  cases hole with
  | none=>cases hk
  | some x =>
   simp only[Option.map_some,sI,pI] at hk
   have:=h x.1 x.2 rfl
   omega
 | _=>trivial
theorem qXp(hF:zP F){H:List HO}{e:Env}{w:World}(S:qP F w0 H e w){f:FuncId}{args args':List SV}{hs:List HO}{sd:List zF}(hb:qNi H 0 args=some (args',hs,sd))(hsd:∀ x∈sd,x (mem w e H)){Q:SV→List HO→Prop}(hf:qI P f args' hs Q)(hq:∀ r h',Q r h'→qSo h'=true):
  Calls P f (qN e args).toArray w (fun E w'=>∃ e' r h',Q r h'∧E=.returned (den (yB H.length e e') (shS H.length r))∧qJg w w'∧qP F w0 (H++h'.map (shH H.length)) (yB H.length e e') w'∧ws (H.length+h'.length) (shS H.length r)):=by
 classical
 obtain⟨⟨fs,l1,l2,l3⟩,hw⟩:=qCm S args 0 hb hsd
 let z1:Nat→Prop:=fun b=>e.z b∨xO e H b
 let e1:Env:=⟨fun _=>0,fun _=>undef,fun i=>match fs[i]? with | some f=>f.1 | none=>fun _=>.nilFunc,fun i p=>by
  cases h:fs[i]? with
  | some f=>exact f.2 p
  | none=>rfl,z1⟩
 have he1:∀(i:Nat) (f:{f:yC→Value // ∀ p,(f p).oneCell'=true}),fs[i]?=some f→e1.val (0+i)=f.1:=fun i f hf=>by
  show(match fs[0+i]? with | some f=>f.1 | none=>fun _=>.nilFunc)=f.1
  rw[Nat.zero_add,hf]
 have hden:=l3 e1 he1
 have noown:∀(i:Nat) (x:HO) (b:Nat),hs[i]?=some x→¬ x.own e1 i b:=fun i x b hx hh=>by
  obtain⟨b0,c,f,rfl,_⟩:=l2 i x hx
  simp [HO.own] at hh
 have hmem:mem w e1 hs=xD w:=by
  funext b
  unfold mem xD
  rw[if_neg]
  rintro⟨i,x,hx,hh⟩
  exact noown i x b hx hh
 have hzle:((mem w e H).sub e.z).le ((xD w).sub z1):=by
  intro b o hbo
  unfold Mem.sub mem at hbo
  split at hbo
  ·cases hbo
  ·rename_i hz
   split at hbo
   ·cases hbo
   ·rename_i ho
    unfold Mem.sub xD
    rw[if_neg (by rintro(h | h); exact hz h; exact ho h)]
    exact hbo
 let F1:Mem→Prop:=fun M=>∀ b o,w.heap[b]?=some o→M b=some o
 have hF1:zP F1:=fun M M' hle h b o hbo=>hle b o (h b o hbo)
 have S1:qP F1 ⟨w,z1,0,e1⟩ hs e1 w:=by
  refine⟨rfl,rfl,rfl,fun i x hx=>?_,fun i x hx=>?_,fun i j x y b hx _ hh=>absurd hh (noown i x b hx),?_,fun i x b hx hh=>absurd hh (noown i x b hx),?_,rfl,Nat.zero_le _,fun i hi=>absurd hi (Nat.not_lt_zero i)⟩
  ·obtain⟨b0,c,f,rfl,hf',hr⟩:=l2 i x hx
   have hv:=he1 i f hf'
   rw[Nat.zero_add] at hv
   simp only[HO.sat,hv,hmem]
   cases b0 with
   | true=>exact hr
   | false=>exact zT hzle _ _ _ hr
  ·obtain⟨b0,c,f,rfl,_⟩:=l2 i x hx
   trivial
  ·rw[hmem]; exact fun b o h=>h
  ·rintro b (h | ⟨i,x,hx,h⟩)
   ·exact S.zlt b h
   ·exact HO.own_lt (S.sat i x hx) h
 have hc:=hf F1 hF1 ⟨w,z1,0,e1⟩ e1 rfl S1 (by rwa [Nat.zero_add] at hw)
 rw[hden] at hc
 refine hc.mono fun E w' hE=>?_
 obtain⟨e',r,h',q1,q2,S2,rfl⟩:=hE
 have hgrow:qJg w w':=by
  intro b hlt
  have h1:w.heap[b]?=some w.heap[b]:=Array.getElem?_eq_getElem hlt
  have h2:=S2.fact b _ h1
  rw[h1]
  exact jH w' e' h' b _ h2
 have hsize:w.heap.size≤w'.heap.size:=by
  rcases Nat.eq_zero_or_pos w.heap.size with h0 | h0
  ·omega
  ·have h1:=hgrow (w.heap.size-1) (by omega)
   have h2:w.heap[w.heap.size-1]?=some w.heap[w.heap.size-1]:=Array.getElem?_eq_getElem (by omega)
   have:=(Array.getElem?_eq_some_iff.1 (h1.trans h2)).1
   omega
 have hnew:∀(i:Nat) (x:HO) (b:Nat),h'[i]?=some x→x.own e' i b→¬ z1 b∧w.heap.size≤b:=by
  intro i x b hx hb'
  have hz:=S2.nz i x b hx hb'
  rw[S2.ez] at hz
  refine⟨hz,?_⟩
  rcases Nat.lt_or_ge b w.heap.size with hlt | hge
  ·exfalso
   have h2:=S2.fact b _ (Array.getElem?_eq_getElem hlt)
   unfold mem at h2
   rw[if_pos ⟨i,x,hx,hb'⟩] at h2
   cases h2
  ·exact hge
 have hget:∀(i:Nat) (x:HO),(H++h'.map (shH H.length))[i]?=some x→(i<H.length∧H[i]?=some x)∨∃ j y,i=H.length+j∧h'[j]?=some y∧x=shH H.length y:=by
  intro i x hx
  rw[List.getElem?_append] at hx
  split at hx
  ·rename_i hlt; exact .inl ⟨hlt,hx⟩
  ·rename_i hge
   rw[List.getElem?_map,Option.map_eq_some_iff] at hx
   obtain⟨y,h1,h2⟩:=hx
   exact .inr ⟨i-H.length,y,by omega,h1,h2.symm⟩
 have hag:=qId H.length e e'
 have howned:∀ b,xO (yB H.length e e') (H++h'.map (shH H.length)) b→xO e H b∨xO e' h' b:=by
  rintro b ⟨i,x,hx,hb'⟩
  rcases hget i x hx with ⟨hlt,h0⟩ | ⟨j,y,rfl,h0,rfl⟩
  ·rw[HO.own_agree hlt hag] at hb'
   exact .inl ⟨i,x,h0,hb'⟩
  ·rw[qGz] at hb'
   exact .inr ⟨j,y,h0,hb'⟩
 have hM:(mem w e H).le (mem w' (yB H.length e e') (H++h'.map (shH H.length))):=by
  intro b o hbo
  unfold mem at hbo
  split at hbo
  ·cases hbo
  ·rename_i ho
   have h2:=S2.fact b o hbo
   unfold mem at h2 ⊢
   split at h2
   ·cases h2
   ·rename_i ho2
    rw[if_neg (fun hh=>(howned b hh).elim ho ho2)]
    exact h2
 have hMz:((mem w' e' h').sub e'.z).le ((mem w' (yB H.length e e') (H++h'.map (shH H.length))).sub e.z):=by
  rw[S2.ez]
  intro b o hbo
  unfold Mem.sub at hbo
  split at hbo
  ·cases hbo
  ·rename_i hz
   have hz':¬ (e.z b∨xO e H b):=hz
   unfold Mem.sub
   rw[if_neg (fun h=>hz' (.inl h))]
   unfold mem at hbo ⊢
   split at hbo
   ·cases hbo
   ·rename_i ho2
    rw[if_neg (fun hh=>(howned b hh).elim (fun h=>hz' (.inr h)) ho2)]
    exact hbo
 refine⟨e',r,h',q1,by rw[qXa],hgrow,?_,zEb _ _ r q2⟩
 have hall:=List.all_eq_true.1 (hq r h' q1)
 refine⟨S2.os.trans S.os,S2.tape.trans S.tape,S2.output.trans S.output,?_,?_,?_,hF _ _ hM S.fact,?_,fun b hb'=>Nat.lt_of_lt_of_le (S.zlt b hb') hsize,S.ez,by rw[List.length_append]; exact Nat.le_trans S.pin.1 (Nat.le_add_right _ _),fun i hi=>?_⟩
 rotate_right
 ·obtain⟨a1,a2,a3⟩:=hag.1 i (Nat.lt_of_lt_of_le hi S.pin.1)
  obtain⟨b1,b2,b3⟩:=S.pin.2 i hi
  exact⟨a1.trans b1,a2.trans b2,a3.trans b3⟩
 ·intro i x hx
  rcases hget i x hx with ⟨hlt,h0⟩ | ⟨j,y,rfl,h0,rfl⟩
  ·exact HO.sat_keep hM hlt hag (S.ws i x h0) (S.sat i x h0) fun b hb'=>hgrow b (HO.own_lt (S.sat i x h0) hb')
  ·refine zGo (fun c hc=>?_) hMz (S2.sat j y h0)
   have:=hall y (List.mem_of_getElem? h0)
   rw[hc] at this
   cases this
 ·intro i x hx
  rw[List.length_append,List.length_map]
  rcases hget i x hx with ⟨hlt,h0⟩ | ⟨j,y,rfl,h0,rfl⟩
  ·exact HO.ws_mono (by omega) (S.ws i x h0)
  ·exact zKq (S2.ws j y h0)
 ·intro i i2 x x2 b hx hx2 hb1 hb2
  rcases hget i x hx with ⟨hlt,h0⟩ | ⟨j,y,rfl,h0,rfl⟩
  ·rw[HO.own_agree hlt hag] at hb1
   rcases hget i2 x2 hx2 with ⟨hlt2,h02⟩ | ⟨j2,y2,rfl,h02,rfl⟩
   ·rw[HO.own_agree hlt2 hag] at hb2
    exact S.one i i2 x x2 b h0 h02 hb1 hb2
   ·rw[qGz] at hb2
    exact((hnew j2 y2 b h02 hb2).1 (.inr ⟨i,x,h0,hb1⟩)).elim
  ·rw[qGz] at hb1
   rcases hget i2 x2 hx2 with ⟨hlt2,h02⟩ | ⟨j2,y2,rfl,h02,rfl⟩
   ·rw[HO.own_agree hlt2 hag] at hb2
    exact((hnew j y b h0 hb1).1 (.inr ⟨i2,x2,h02,hb2⟩)).elim
   ·rw[qGz] at hb2
    rw[S2.one j j2 y y2 b h0 h02 hb1 hb2]
 ·intro i x b hx hb1
  rcases hget i x hx with ⟨hlt,h0⟩ | ⟨j,y,rfl,h0,rfl⟩
  ·rw[HO.own_agree hlt hag] at hb1
   exact S.nz i x b h0 hb1
  ·rw[qGz] at hb1
   exact fun hz=>(hnew j y b h0 hb1).1 (.inl hz)
theorem qPk{ops:Array Oper}{st st1:St}{e:Env}{a:Act}{w:World}{D D1:List Dec}{o:Oper}{sd:List zF}(S:qP F w0 st.heap e w)(T:zA n st.heap.length st.tm e a)(hg:qGa ops st D o=some (true,st1,sd,D1))(hsd:yE F sd):
  Region.wanted o (yielded ops a.tmps)=true∧qP F w0 st1.heap e w∧zA n st1.heap.length st1.tm e a:=by
 obtain⟨g1,g2,g3⟩:=yG T hg (fun x hx=>hsd x hx _ S.fact)
 exact⟨g1,by rw[g2]; exact S,by rw[g2]; exact g3⟩
theorem qIy{st1:St}{e:Env}{a:Act}{w:World}{o:Oper}{c:Call}{f:FuncId}{args:List SV}(T:zA n st1.heap.length st1.tm e a)(ho:o.op=.call c)(hc:qHg P st1 c=some (f,args))(hb:qEw P f=true):(execOp a.eval o).run P w=.ok (.enter f (qN e args).toArray) w:=by
 have hcf:∀ asl,(callFunc f asl).run P w=.ok (.enter f asl) w:=by
  intro asl
  unfold qEw at hb
  split at hb
  ·rename_i fn hfn
   rw[Bool.and_eq_true] at hb
   have h1:(fn.name == "runtime.NumGoroutine")=false:=by simpa using hb.2
   have h2:fn.body.isNone=false:=by
    cases hbd:fn.body with
    | none=>rw[hbd] at hb; cases hb.1
    | some c=>rfl
   unfold callFunc
   rw[Sem.run_bind,run_program,Result.andThen_ok]
   simp only[hfn,h1,h2,Bool.false_eq_true,if_false]
   rfl
  ·cases hb
 have hme:∀(t:TypeId) (v:Value) (name:String) (asl:List SV) (x:Operand),c.callee=.invoke x name→a.eval x=.iface t v→c.args.map a.eval=(qN e asl).toArray→qJn P t v name asl=some (f,args) →
   (execOp a.eval o).run P w=.ok (.enter f (qN e args).toArray) w:=by
  intro t v name asl x hcal hx has hm
  unfold qJn at hm
  split at hm
  ·rename_i f1 r hr
   simp only[sI,pI] at hm
   obtain⟨rfl,rfl⟩:=hm
   have hr':=jK hr w
   simp [execOp,ho,resolve,hcal,has,invoke,hx,callMethod,hr',hcf,qN,den]
  ·cases hm
 unfold qHg at hc
 split at hc
 ·rename_i x name hcal
  split at hc
  ·rename_i t y asl hx has
   obtain⟨e1,_⟩:=jT T _ has
   have e2:c.args.map a.eval=(qN e asl).toArray:=by apply Array.ext'; rw[Array.toList_map,e1]
   split at hc
   ·rename_i v hv
    exact hme t v name asl x hcal (by rw[(qH T hx).1,den,jF e y hv]) e2 hc
   ·cases hc
  ·rename_i t v asl hx has
   obtain⟨e1,_⟩:=jT T _ has
   have e2:c.args.map a.eval=(qN e asl).toArray:=by apply Array.ext'; rw[Array.toList_map,e1]
   exact hme t v name asl x hcal (qH T hx).1 e2 hc
  ·cases hc
 ·rename_i x hcal
  split at hc
  ·rename_i f1 first cap asl hx has
   simp only[sI,pI] at hc
   obtain⟨rfl,rfl⟩:=hc
   obtain⟨e1,_⟩:=jT T _ has
   have e2:c.args.map a.eval=(qN e asl).toArray:=by apply Array.ext'; rw[Array.toList_map,e1]
   simp [execOp,ho,resolve,hcal,e2,invoke,Deferred.ofValue,(qH T hx).1,den,hcf,qDo]
  ·rename_i f1 first cap asl hx has
   simp only[sI,pI] at hc
   obtain⟨rfl,rfl⟩:=hc
   obtain⟨e1,_⟩:=jT T _ has
   have e2:c.args.map a.eval=(qN e asl).toArray:=by apply Array.ext'; rw[Array.toList_map,e1]
   simp [execOp,ho,resolve,hcal,e2,invoke,Deferred.ofValue,(qH T hx).1,den,hcf,qDo,qAd]
  ·cases hc
 ·cases hc
theorem Ok.callG{it it':It}{k:List It}{st st1:St}{D:List Dec}{f:FuncId}{args:List SV}{sd:List zF}{dst:Option Nat}(hx:qCs P B it st D=some (f,args,st1,sd,dst,it'))(hsd:yE F sd)(hc:∀ e a w,qP F w0 st1.heap e w→zA n st1.heap.length st1.tm e a→Calls P f (qN e args).toArray w (fun E w'=>∃ v,E=.returned v∧(zFf B it=true→qJg w w')∧jD P B fin (it'::k) .normal (a.put dst v) w')):
  Ok P B n F w0 fin (it::k) st:=by
 intro e a w S T
 unfold qCs at hx
 split at hx
 ·rename_i p i
  split at hx
  ·rename_i id ops dr hs
   split at hx
   ·rename_i o ho
    split at hx
    ·rename_i st2 sd2 D2 hg
     split at hx
     ·rename_i c hop
      split at hx
      ·rename_i f1 args1 hcal
       cases hb:qEw P f1 with
       | false=>rw[hb] at hx; cases hx
       | true =>
        rw[hb] at hx
        simp only[cond_true,sI,pI] at hx
        obtain⟨rfl,rfl,rfl,rfl,rfl,rfl⟩:=hx
        obtain⟨g1,S1,T1⟩:=qPk S T hg hsd
        have hcc:=hc e a w S1 T1
        simp only[jD,hs] at hcc ⊢
        have hlt:i<ops.toList.length:=by
         have:=(Array.getElem?_eq_some_iff.1 ho).1
         simpa using this
        have hd:ops.toList.drop i=o::ops.toList.drop (i+1):=by
         rw[List.drop_eq_getElem_cons hlt]
         congr 1
         have h2:=(Array.getElem?_eq_some_iff.1 ho).2
         simpa using h2
        rw[hd]
        refine wpList_step fun K hK=>?_
        rw[if_pos g1]
        unfold Oper.wp
        rw[qIy T1 hop hcal hb]
        simp only[Oper.upon]
        refine hcc.mono fun E w' hE=>?_
        obtain⟨v,rfl,_,h3⟩:=hE
        exact hK _ _ h3
      ·cases hx
     ·cases hx
    ·cases hx
   ·cases hx
  ·cases hx
 ·rename_i p fu l i
  split at hx
  ·rename_i id ops dr hs
   split at hx
   ·rename_i o ho
    split at hx
    ·rename_i st2 sd2 D2 hg
     split at hx
     ·rename_i c hop
      split at hx
      ·rename_i f1 args1 hcal
       cases hb:qEw P f1 with
       | false=>rw[hb] at hx; cases hx
       | true =>
        rw[hb] at hx
        simp only[cond_true,sI,pI] at hx
        obtain⟨rfl,rfl,rfl,rfl,rfl,rfl⟩:=hx
        obtain⟨g1,S1,T1⟩:=qPk S T hg hsd
        have hcc:=hc e a w S1 T1
        simp only[jD,hs,zFf] at hcc ⊢
        unfold wpOp
        simp only[ho,g1,if_true]
        refine .inl ?_
        unfold Oper.wp
        rw[qIy T1 hop hcal hb]
        simp only[Oper.upon]
        refine hcc.mono fun E w' hE=>?_
        obtain⟨v,rfl,h2,h3⟩:=hE
        exact⟨h2,h3⟩
      ·cases hx
     ·cases hx
    ·cases hx
   ·cases hx
  ·cases hx
 ·cases hx
theorem Ok.callC(hF:zP F){it it':It}{k:List It}{st st1:St}{D:List Dec}{f:FuncId}{args args':List SV}{hs:List HO}{sd sd2:List zF}{dst:Option Nat}(hx:qCs P B it st D=some (f,args,st1,sd,dst,it'))(hsd:yE F sd)(hb:qNi st1.heap 0 args=some (args',hs,sd2))(hsd2:yE F sd2){Q:SV→List HO→Prop}(hf:qI P f args' hs Q)(hq:∀ r h',Q r h'→qSo h'=true∧∃ st2,qJi n ⟨st1.tm,st1.heap++h'.map (shH st1.heap.length)⟩ dst (shS st1.heap.length r)=some st2∧Ok P B n F w0 fin (it'::k) st2):Ok P B n F w0 fin (it::k) st:=by
 refine Ok.callG hx hsd fun e a w S T=>(qXp hF S hb (fun x hx=>hsd2 x hx _ S.fact) hf (fun r h' h=>(hq r h' h).1)).mono fun E w' hE=>?_
 obtain⟨e',r,h',q1,rfl,hg,S2,hw⟩:=hE
 obtain⟨_,st2,hput,hk⟩:=hq r h' q1
 refine⟨_,rfl,fun _=>hg,?_⟩
 obtain⟨p1,p2⟩:=yU (st:=⟨st1.tm,st1.heap++h'.map (shH st1.heap.length)⟩) (hl':=st1.heap.length+h'.length) T (qId st1.heap.length e e') (by omega) hput rfl hw
 exact hk _ _ w' (by rw[p2]; exact S2) (by rw[p2]; simpa using p1)
end
end Go.Sx
/- '==' at types of integers: arrays and structs of them. -/
namespace Go.Sx
open Go.RowKit

theorem qBl:∀(k1:List IntKind) (x1:List Int) (k2:List IntKind) (x2:List Int),x1.length=k1.length→qW (k1++k2) (x1++x2)=qW k1 x1++qW k2 x2
 | [],[],k2,x2,_=>rfl
 | k::ks,x::xs,k2,x2,h=>by simp [qW,qBl ks xs k2 x2 (by simpa using h)]
 | [],_::_,k2,x2,h=>by simp at h
 | _::_,[],k2,x2,h=>by simp at h
theorem qBp:∀(ks:List IntKind) (xs:List Int),xs.length=ks.length→(qW ks xs).length=ks.length
 | [],[],_=>rfl
 | k::ks,x::xs,h=>by simp [qW,qBp ks xs (by simpa using h)]
 | [],_::_,h=>by simp at h
 | _::_,[],h=>by simp at h
structure EqT (P:Program) (d:Nat) (t:TypeId) (ag:Bool) (ks:List IntKind):Prop where
 agg:qDp P t=some ag
 size:jL P t=some ks.length
 one:ag=false→ks.length=1
 chk:∀ b D (xs:List Int) (w:World),d≤D→xs.length=ks.length→(Instr.checkKey b D t (mkT ag ks xs)).run P w=.ok () w
 eq:∀ D (xs ys:List Int) (w:World),d≤D→xs.length=ks.length→ys.length=ks.length→(Op.equalIn D t (mkT ag ks xs) (mkT ag ks ys)).run P w=.ok (decide (xs=ys)) w
section
variable {P : Program}
theorem EqT.prt{d:Nat}{t:TypeId}{ag:Bool}{ks:List IntKind}(h:EqT P d t ag ks)(k1:List IntKind)(x1:List Int)(k2:List IntKind)(x2 xs:List Int)(h1:x1.length=k1.length)(hx:xs.length=ks.length)(w:World):
  (Go.part t (qW (k1++(ks++k2)) (x1++(xs++x2))).toArray k1.length).run P w=.ok (mkT ag ks xs) w:=by
 have hl1:=qBp k1 x1 h1
 have hl2:=qBp ks xs hx
 rw[qBl k1 x1 _ _ h1,qBl ks xs _ _ hx]
 cases ag with
 | true =>
  simp only[Go.part,Sem.run_bind,qBv h.agg,Result.andThen_ok,zI h.size,Sem.run_ite,if_true,Sem.run_pure,mkT]
  congr 2
  have e1:k1.length=(qW k1 x1).length:=hl1.symm
  have e2:ks.length=(qW ks xs).length:=hl2.symm
  simp only[List.extract_toArray,List.extract_eq_take_drop,Nat.add_sub_cancel_left]
  congr 1
  rw[e1,List.drop_left,e2,List.take_left]
 | false =>
  have h1c:=h.one rfl
  have hpos:(qW ks xs).length=1:=by rw[hl2,h1c]
  match hm:qW ks xs,hpos with
  | [v],_ =>
   have:(qW k1 x1++([v]++qW k2 x2)).toArray[k1.length]?=some v:=by
    simp [hl1]
   simp only[Go.part,Sem.run_bind,qBv h.agg,Result.andThen_ok,Bool.false_eq_true,if_false,this,mkT,hm]
   rfl
theorem EqT.int{t:TypeId}{k:IntKind}(hu:P.underlying t=some (.int k))(hs:jL P t=some 1):EqT P 1 t false [k] where
 agg:=by simp [qDp,hu]
 size:=hs
 one:=fun _=>rfl
 chk:=by
  intro b D xs w hD hx
  match xs,hx with
  | [x],_ =>
   obtain⟨D',rfl⟩:∃ D',D=D'+1:=⟨D-1,by omega⟩
   simp only[mkT,qW,Bool.false_eq_true,if_false,List.headD_cons]
   unfold Instr.checkKey
   simp only[Sem.run_bind,run_underlying hu,Result.andThen_ok,Sem.run_pure]
 eq:=by
  intro D xs ys w hD hx hy
  match xs,ys,hx,hy with
  | [x],[y],_,_ =>
   obtain⟨D',rfl⟩:∃ D',D=D'+1:=⟨D-1,by omega⟩
   simp only[mkT,qW,Bool.false_eq_true,if_false,List.headD_cons]
   rw[run_equalIn_int w D' t k k x y hu]
   congr 1
   by_cases hxy:x=y
   ·simp [hxy]
   ·simp [hxy]
def qMm(d:Nat)(el:TypeId)(n:Nat)(xs ys:Array Value):List Nat→Sem Bool
 | []=>pure true
 | i::r=>do
  let a ← part el xs (i*n)
  let b ← part el ys (i*n)
  let q ← Op.equalIn d el a b
  if(!q)=true then pure false else qMm d el n xs ys r
theorem qGv(d:Nat)(t el:TypeId)(len n:Nat)(xs ys:Array Value)(w:World)(hu:P.underlying t=some (.array len el))(hn:jL P el=some n):
  (Op.equalIn (d+1) t (.agg xs) (.agg ys)).run P w=(qMm d el n xs ys (List.range' 0 len)).run P w:=by
 simp only[Op.equalIn,Sem.run_bind,run_underlying hu,Result.andThen_ok,zI hn]
 rw[Std.Legacy.Range.forIn_eq_forIn_range']
 have:([0:len]:Std.Legacy.Range).size=len:=by simp [Std.Legacy.Range.size]
 simp only[this]
 generalize List.range' 0 len=fs
 induction fs generalizing w with
 | nil=>simp [qMm]
 | cons f fs ih =>
  simp only[List.forIn_cons,qMm,Sem.run_bind,Sem.run_ite]
  generalize (part el xs (f*n)).run P w=r1
  cases r1 with
  | ok a w1 =>
   simp only[Result.andThen_ok]
   generalize (part el ys (f*n)).run P w1=r2
   cases r2 with
   | ok b w2 =>
    simp only[Result.andThen_ok]
    generalize (Op.equalIn d el a b).run P w2=r3
    cases r3 with
    | ok r w3 =>
     cases r
     ·simp only[Result.andThen_ok,Bool.not_false,if_true,Sem.run_pure]
     ·simp only[Result.andThen_ok,Bool.not_true,Bool.false_eq_true,if_false,Sem.run_pure]
      exact ih w3
    | halt x w3=>simp [Result.andThen]
   | halt x w2=>simp [Result.andThen]
  | halt x w1=>simp [Result.andThen]
def rep{α:Type}(len:Nat)(ks:List α):List α:=(List.replicate len ks).flatten
theorem qTy{α:Type}(len:Nat)(ks:List α):rep (len+1) ks=ks++rep len ks:=by simp [rep,List.replicate_succ]
theorem qLi{α:Type}(len:Nat)(ks:List α):(rep len ks).length=len*ks.length:=by simp [rep]
theorem qOz{d D:Nat}{el:TypeId}{ag:Bool}{ks:List IntKind}(h:EqT P d el ag ks)(hD:d≤D):∀(len:Nat) (i:Nat) (k1:List IntKind) (x1 y1 xs ys:List Int) (w:World),
  x1.length=k1.length→y1.length=k1.length→k1.length=i*ks.length→xs.length=len*ks.length→ys.length=len*ks.length →
  (qMm D el ks.length (qW (k1++rep len ks) (x1++xs)).toArray (qW (k1++rep len ks) (y1++ys)).toArray (List.range' i len)).run P w=.ok (decide (xs=ys)) w
 | 0,i,k1,x1,y1,xs,ys,w,h1,h2,h3,h4,h5=>by
  have e1:xs=[]:=List.eq_nil_of_length_eq_zero (by simpa using h4)
  have e2:ys=[]:=List.eq_nil_of_length_eq_zero (by simpa using h5)
  subst e1
  subst e2
  simp [qMm]
 | len+1,i,k1,x1,y1,xs,ys,w,h1,h2,h3,h4,h5=>by
  have hle:ks.length≤xs.length:=by rw[h4,Nat.add_mul]; omega
  have hle2:ks.length≤ys.length:=by rw[h5,Nat.add_mul]; omega
  obtain⟨xa,xb,rfl,hxa⟩:∃ xa xb,xs=xa++xb∧xa.length=ks.length:=⟨xs.take ks.length,xs.drop ks.length,(List.take_append_drop _ _).symm,by simp [hle]⟩
  obtain⟨ya,yb,rfl,hya⟩:∃ ya yb,ys=ya++yb∧ya.length=ks.length:=⟨ys.take ks.length,ys.drop ks.length,(List.take_append_drop _ _).symm,by simp [hle2]⟩
  rw[qTy,List.range'_succ]
  simp only[qMm,Sem.run_bind,← h3]
  rw[h.prt k1 x1 (rep len ks) xb xa h1 hxa w,Result.andThen_ok,h.prt k1 y1 (rep len ks) yb ya h2 hya w,Result.andThen_ok,h.eq D xa ya w hD hxa hya,Result.andThen_ok]
  by_cases he:xa=ya
  ·subst he
   simp only[decide_true,Bool.not_true,Bool.false_eq_true,if_false]
   have:=qOz h hD len (i+1) (k1++ks) (x1++xa) (y1++xa) xb yb w (by simp [h1,hxa]) (by simp [h2,hxa]) (by simp [h3,Nat.add_mul]) (by simp [Nat.add_mul,hxa] at h4; omega) (by simp [Nat.add_mul,hxa] at h5; omega)
   simp only[List.append_assoc] at this
   rw[this]
   simp
  ·have hne:¬ (xa++xb=ya++yb):=fun hh=>he ((List.append_inj hh (by rw[hxa,hya])).1)
   simp [he,hne]
def qFi(b:Bool)(d:Nat)(el:TypeId)(n:Nat)(xs:Array Value):List Nat→Sem Unit
 | []=>pure ()
 | i::r=>do
  Instr.checkKey b d el (← part el xs (i*n))
  qFi b d el n xs r
theorem qFw(d:Nat)(b:Bool)(t el:TypeId)(len n:Nat)(xs:Array Value)(w:World)(hu:P.underlying t=some (.array len el))(hn:jL P el=some n):
  (Instr.checkKey b (d+1) t (.agg xs)).run P w=(qFi b d el n xs (List.range' 0 len)).run P w:=by
 simp only[Instr.checkKey,Sem.run_bind,run_underlying hu,Result.andThen_ok]
 rw[Std.Legacy.Range.forIn_eq_forIn_range']
 have:([0:len]:Std.Legacy.Range).size=len:=by simp [Std.Legacy.Range.size]
 simp only[this]
 generalize List.range' 0 len=fs
 induction fs generalizing w with
 | nil=>simp [qFi]
 | cons f fs ih =>
  simp only[List.forIn_cons,qFi,Sem.run_bind,zI hn,Result.andThen_ok]
  generalize (part el xs (f*n)).run P w=r1
  cases r1 with
  | ok a w1 =>
   simp only[Result.andThen_ok]
   generalize (Instr.checkKey b d el a).run P w1=r2
   cases r2 with
   | ok u w2 =>
    simp only[Result.andThen_ok,Sem.run_pure]
    exact ih w2
   | halt x w2=>simp [Result.andThen]
  | halt x w1=>simp [Result.andThen]
theorem qKj{d D:Nat}{el:TypeId}{ag:Bool}{ks:List IntKind}(h:EqT P d el ag ks)(hD:d≤D)(b:Bool):∀(len:Nat) (i:Nat) (k1:List IntKind) (x1 xs:List Int) (w:World),
  x1.length=k1.length→k1.length=i*ks.length→xs.length=len*ks.length →
  (qFi b D el ks.length (qW (k1++rep len ks) (x1++xs)).toArray (List.range' i len)).run P w=.ok () w
 | 0,i,k1,x1,xs,w,h1,h3,h4=>by simp [qFi]
 | len+1,i,k1,x1,xs,w,h1,h3,h4=>by
  have hle:ks.length≤xs.length:=by rw[h4,Nat.add_mul]; omega
  obtain⟨xa,xb,rfl,hxa⟩:∃ xa xb,xs=xa++xb∧xa.length=ks.length:=⟨xs.take ks.length,xs.drop ks.length,(List.take_append_drop _ _).symm,by simp [hle]⟩
  rw[qTy,List.range'_succ]
  simp only[qFi,Sem.run_bind,← h3]
  rw[h.prt k1 x1 (rep len ks) xb xa h1 hxa w,Result.andThen_ok,h.chk b D xa w hD hxa,Result.andThen_ok]
  have:=qKj h hD b len (i+1) (k1++ks) (x1++xa) xb w (by simp [h1,hxa]) (by simp [h3,Nat.add_mul]) (by simp [Nat.add_mul,hxa] at h4; omega)
  simp only[List.append_assoc] at this
  exact this
theorem EqT.array{d:Nat}{t el:TypeId}{ag:Bool}{ks:List IntKind}{len:Nat}(h:EqT P d el ag ks)(hu:P.underlying t=some (.array len el))(hs:jL P t=some (rep len ks).length):EqT P (d+1) t true (rep len ks) where
 agg:=by simp [qDp,hu]
 size:=hs
 one:=fun hh=>by cases hh
 chk:=by
  intro b D xs w hD hx
  obtain⟨D',rfl⟩:∃ D',D=D'+1:=⟨D-1,by omega⟩
  simp only[mkT,if_true]
  rw[qFw D' b t el len ks.length _ w hu h.size]
  rw[qLi] at hx
  exact qKj h (by omega) b len 0 [] [] xs w rfl (by simp) hx
 eq:=by
  intro D xs ys w hD hx hy
  obtain⟨D',rfl⟩:∃ D',D=D'+1:=⟨D-1,by omega⟩
  simp only[mkT,if_true]
  rw[qGv D' t el len ks.length _ _ w hu h.size]
  rw[qLi] at hx hy
  exact qOz h (by omega) len 0 [] [] [] xs ys w rfl rfl (by simp) hx hy
inductive qHs (P : Program) (d : Nat) : Nat → List Field → List IntKind → Prop where
  | nil (off : Nat) : qHs P d off [] []
  | cons {off : Nat} {f : Field} {fs : List Field} {ag : Bool} {ks kr : List IntKind} (h : EqT P d f.type ag ks) (ho : f.offset = off) (hn : f.name ≠ "_") (r : qHs P d (off + ks.length) fs kr) : qHs P d off (f :: fs) (ks ++ kr)
theorem qSi{d D:Nat}(hD:d≤D){off:Nat}{fs:List Field}{kr:List IntKind}(h:qHs P d off fs kr):∀(k1:List IntKind) (x1 y1 xs ys:List Int) (w:World),off=k1.length→x1.length=k1.length→y1.length=k1.length→xs.length=kr.length→ys.length=kr.length →
  (Op.eqFields D (qW (k1++kr) (x1++xs)).toArray (qW (k1++kr) (y1++ys)).toArray fs).run P w=.ok (decide (xs=ys)) w:=by
 induction h with
 | nil off =>
  intro k1 x1 y1 xs ys w _ h1 h2 h4 h5
  have e1:xs=[]:=List.eq_nil_of_length_eq_zero (by simpa using h4)
  have e2:ys=[]:=List.eq_nil_of_length_eq_zero (by simpa using h5)
  subst e1
  subst e2
  simp [Op.eqFields]
 | @cons off f fs ag ks kr h ho hn r ih =>
  intro k1 x1 y1 xs ys w hoff h1 h2 h4 h5
  have hle:ks.length≤xs.length:=by rw[h4]; simp
  have hle2:ks.length≤ys.length:=by rw[h5]; simp
  obtain⟨xa,xb,rfl,hxa⟩:∃ xa xb,xs=xa++xb∧xa.length=ks.length:=⟨xs.take ks.length,xs.drop ks.length,(List.take_append_drop _ _).symm,by simp [hle]⟩
  obtain⟨ya,yb,rfl,hya⟩:∃ ya yb,ys=ya++yb∧ya.length=ks.length:=⟨ys.take ks.length,ys.drop ks.length,(List.take_append_drop _ _).symm,by simp [hle2]⟩
  simp only[Op.eqFields,Sem.run_ite,hn,ne_eq,not_false_eq_true,if_true,Sem.run_bind]
  rw[ho,hoff,h.prt k1 x1 kr xb xa h1 hxa w,Result.andThen_ok,h.prt k1 y1 kr yb ya h2 hya w,Result.andThen_ok,h.eq D xa ya w hD hxa hya,Result.andThen_ok]
  by_cases he:xa=ya
  ·subst he
   simp only[decide_true,Bool.not_true,Bool.false_eq_true,if_false]
   have:=ih (k1++ks) (x1++xa) (y1++xa) xb yb w (by simp [hoff]) (by simp [h1,hxa]) (by simp [h2,hxa]) (by simp [hxa] at h4; omega) (by simp [hxa] at h5; omega)
   simp only[List.append_assoc] at this
   rw[this]
   simp
  ·have hne:¬ (xa++xb=ya++yb):=fun hh=>he ((List.append_inj hh (by rw[hxa,hya])).1)
   simp [he,hne]
def qLv(b:Bool)(d:Nat)(xs:Array Value):List Field→Sem Unit
 | []=>pure ()
 | f::r=>do
  if f.name ≠ "_" then Instr.checkKey b d f.type (← part f.type xs f.offset)
  qLv b d xs r
theorem qFa(d:Nat)(b:Bool)(t:TypeId)(fields:Array Field)(xs:Array Value)(w:World)(hu:P.underlying t=some (.struct fields)):
  (Instr.checkKey b (d+1) t (.agg xs)).run P w=(qLv b d xs fields.toList).run P w:=by
 simp only[Instr.checkKey,Sem.run_bind,run_underlying hu,Result.andThen_ok]
 rw[← Array.forIn_toList]
 generalize fields.toList=fs
 induction fs generalizing w with
 | nil=>simp [qLv]
 | cons f fs ih =>
  simp only[List.forIn_cons,qLv,Sem.run_bind]
  by_cases hn:f.name = "_"
  ·simp only[hn,ne_eq,not_true_eq_false,if_false,Sem.run_pure,Result.andThen_ok]
   exact ih w
  ·simp only[hn,ne_eq,not_false_eq_true,if_true,Sem.run_bind]
   generalize (part f.type xs f.offset).run P w=r1
   cases r1 with
   | ok a w1 =>
    simp only[Result.andThen_ok]
    generalize (Instr.checkKey b d f.type a).run P w1=r2
    cases r2 with
    | ok u w2 =>
     simp only[Result.andThen_ok,Sem.run_pure]
     exact ih w2
    | halt x w2=>simp [Result.andThen]
   | halt x w1=>simp [Result.andThen]
theorem zBe{d D:Nat}(hD:d≤D)(b:Bool){off:Nat}{fs:List Field}{kr:List IntKind}(h:qHs P d off fs kr):∀(k1:List IntKind) (x1 xs:List Int) (w:World),off=k1.length→x1.length=k1.length→xs.length=kr.length →
  (qLv b D (qW (k1++kr) (x1++xs)).toArray fs).run P w=.ok () w:=by
 induction h with
 | nil off=>intro k1 x1 xs w _ h1 h4; simp [qLv]
 | @cons off f fs ag ks kr h ho hn r ih =>
  intro k1 x1 xs w hoff h1 h4
  have hle:ks.length≤xs.length:=by rw[h4]; simp
  obtain⟨xa,xb,rfl,hxa⟩:∃ xa xb,xs=xa++xb∧xa.length=ks.length:=⟨xs.take ks.length,xs.drop ks.length,(List.take_append_drop _ _).symm,by simp [hle]⟩
  simp only[qLv,Sem.run_bind,hn,ne_eq,not_false_eq_true,if_true]
  rw[ho,hoff,h.prt k1 x1 kr xb xa h1 hxa w,Result.andThen_ok,h.chk b D xa w hD hxa,Result.andThen_ok]
  have:=ih (k1++ks) (x1++xa) xb w (by simp [hoff]) (by simp [h1,hxa]) (by simp [hxa] at h4; omega)
  simp only[List.append_assoc] at this
  exact this
theorem EqT.struct{d:Nat}{t:TypeId}{kr:List IntKind}(h:qHs P d 0 (P.fieldsOf t).toList kr)(hu:P.underlying t=some (.struct (P.fieldsOf t)))(hp:P.stoodInHeld t=false)(hs:jL P t=some kr.length):EqT P (d+1) t true kr where
 agg:=by simp [qDp,hu]
 size:=hs
 one:=fun hh=>by cases hh
 chk:=by
  intro b D xs w hD hx
  obtain⟨D',rfl⟩:∃ D',D=D'+1:=⟨D-1,by omega⟩
  simp only[mkT,if_true]
  rw[qFa D' b t _ _ w hu]
  exact zBe (by omega) b h [] [] xs w rfl rfl hx
 eq:=by
  intro D xs ys w hD hx hy
  obtain⟨D',rfl⟩:∃ D',D=D'+1:=⟨D-1,by omega⟩
  simp only[mkT,if_true]
  rw[run_equalIn_struct w D' t _ _ hu hp]
  exact qSi (by omega) h [] [] [] xs ys w rfl rfl rfl hx hy
theorem EqT.ok{d:Nat}{t:TypeId}{ks:List IntKind}(h:EqT P d t true ks)(hd:d≤10000)(hg:P.eqGuardType P.depth t=false)(xs ys:List Int)(x y:Operand)(w:World)(hx:xs.length=ks.length)(hy:ys.length=ks.length):
  (do eqGuard .eql t x y (.agg (qW ks xs).toArray) (.agg (qW ks ys).toArray); binOp .eql t (.agg (qW ks xs).toArray) (.agg (qW ks ys).toArray)).run P w=.ok (.bool (decide (xs=ys))) w ∧
  (do eqGuard .neq t x y (.agg (qW ks xs).toArray) (.agg (qW ks ys).toArray); binOp .neq t (.agg (qW ks xs).toArray) (.agg (qW ks ys).toArray)).run P w=.ok (.bool (!decide (xs=ys))) w:=by
 have he:=h.eq 10000 xs ys w hd hx hy
 simp only[mkT,if_true] at he
 constructor
 ·rw[Sem.run_bind,run_eqGuard_agg w _ t x y _ _ hg,Result.andThen_ok,run_eql_struct,he]
  rfl
 ·rw[Sem.run_bind,run_eqGuard_agg w _ t x y _ _ hg,Result.andThen_ok,run_neq_struct,he]
  rfl
theorem qEc{t:TypeId}{ag:Bool}{ks:List IntKind}{d:Nat}(h:EqT P d t ag ks)(hd:d≤10000)(xs:List Int)(hx:xs.length=ks.length)(w:World):∀(kl:List (List Int)) (vs:List Value) (i s:Nat),(∀ k∈kl,k.length=ks.length)→vs.length=kl.length →
  (Instr.findAsking t (mkT ag ks xs) (mpE ag ks s kl vs) i).run P w=.ok (zY kl vs xs i) w
 | [],[],i,s,_,_=>by simp [mpE,zY,Instr.findAsking]
 | k::r,v::u,i,s,hk,hl=>by
  simp only[mpE,Instr.findAsking,Op.equal,Op.maxDepth,Sem.run_bind,h.eq 10000 xs k w hd hx (hk k List.mem_cons_self),Result.andThen_ok]
  by_cases hxk:xs=k
  ·simp [zY,hxk]
  ·simp only[hxk,decide_false,Bool.false_eq_true,if_false,zY]
   exact qEc h hd xs hx w r u (i+1) (s+1) (fun y hy=>hk y (List.mem_cons_of_mem _ hy)) (by simpa using hl)
 | k::r,[],i,s,_,hl=>by simp at hl
 | [],_::_,i,s,_,hl=>by simp at hl
theorem EqT.keyA{t:TypeId}{ks:List IntKind}{d:Nat}(h:EqT P d t true ks)(hd:d≤10000):qJm P t true ks where
 one:=fun hh=>by cases hh
 chk:=fun b xs w hx=>h.chk b 10000 xs w hd hx
 fnd:=by
  intro kl vs xs w hx hk hl
  have hag:=h.agg
  unfold qDp at hag
  cases hu:P.underlying t with
  | none=>simp [hu] at hag
  | some dsc =>
   have hrun:=qEc h hd xs hx w kl vs 0 0 hk hl
   match kl,vs,hl with
   | [],[],_=>simp [Instr.findKey,run_underlying hu,mpE,Instr.findNow,zY]
   | k::r,v::u,_ =>
    have hn:Instr.findNow dsc (mkT true ks xs) (mpE true ks 0 (k::r) (v::u)) 0=none:=by
     simp [mpE,Instr.findNow,mkT,Instr.sameNow]
    simp only[Instr.findKey,Sem.run_bind,run_underlying hu,Result.andThen_ok,hn]
    exact hrun
theorem qJm.int{t:TypeId}{k:IntKind}(hu:P.underlying t=some (.int k))(hs:jL P t=some 1):qJm P t false [k] where
 one:=fun _=>rfl
 chk:=fun b xs w hx=>(EqT.int hu hs).chk b 10000 xs w (by omega) hx
 fnd:=by
  intro kl vs xs w hx hk hl
  match xs,hx with
  | [x],_ =>
   have hn:∀(kl:List (List Int)) (vs:List Value) (s i:Nat),(∀ y∈kl,y.length=1)→vs.length=kl.length→Instr.findNow (.int k) (.int k x) (mpE false [k] s kl vs) i=some (zY kl vs [x] i):=by
    intro kl
    induction kl with
    | nil=>intro vs s i _ _; simp [mpE,Instr.findNow,zY]
    | cons y r ih =>
     intro vs s i hy hl
     match vs,hl with
     | v::u,hl =>
      match y,hy y List.mem_cons_self with
      | [y],_ =>
       have hr:=ih u (s+1) (i+1) (fun z hz=>hy z (List.mem_cons_of_mem _ hz)) (by simpa using hl)
       by_cases hxy:x=y
       ·simp [mpE,Instr.findNow,zY,mkT,qW,Instr.sameNow,hxy]
       ·simp only[mpE,Instr.findNow,zY,mkT,qW,Instr.sameNow,Bool.false_eq_true,if_false,if_true,List.headD_cons,List.cons.injEq,and_true,hxy,beq_eq_false_iff_ne.2 hxy]
        exact hr
   simp only[Instr.findKey,Sem.run_bind,run_underlying hu,Result.andThen_ok]
   rw[show mkT false [k] [x]=.int k x from rfl,hn kl vs 0 0 hk hl]
   rfl
end
end Go.Sx
/- Calls that write what they are given. -/
namespace Go.Sx
open Go.RowKit
set_option linter.unusedVariables false

def via(π:List Nat)(n:Nat)(a b:Env):Prop:=∀ i,i<n→b.blk (π.getD i 0)=a.blk i∧b.row (π.getD i 0)=a.row i∧b.val (π.getD i 0)=a.val i
mutual
theorem qQh {π : List Nat} {n : Nat} {a b : Env} (h : via π n a b) : ∀ (s : SV), ws n s → den b (yH π s) = den a s
  | .v _, _ => rfl
  | .bl _, _ => rfl
  | .p i off, hs => by simp only [yH, den, (h i hs).1]
  | .o i, hs => by simp only [yH, den, (h i hs).2.1]
  | .q i off, hs => by simp only [yH, den, (h i hs).2.1]
  | .m i, hs => by simp only [yH, den, (h i hs).1]
  | .sl i _ _ _, hs => by simp only [yH, den, (h i hs).1]
  | .x i p, hs => by simp only [yH, den, (h i hs).2.2]
  | .xp i p sz k j, hs => by simp only [yH, den, (h i hs).2.2]
  | .qk i sz k j, hs => by simp only [yH, den, (h i hs).2.1]
  | .agg cs, hs => by simp only [yH, den, yK h cs hs]
  | .tup cs, hs => by simp only [yH, den, yK h cs hs]
  | .fn f x c, hs => by simp only [yH, den, yK h x hs.1, yK h c hs.2]
  | .ifc t y, hs => by simp only [yH, den, qQh h y hs]
theorem yK {π : List Nat} {n : Nat} {a b : Env} (h : via π n a b) : ∀ (l : List SV), wsL n l → qN b (qCe π l) = qN a l
  | [], _ => rfl
  | x :: r, hs => by simp only [qN, qCe, qQh h x hs.1, yK h r hs.2]
end
mutual
theorem qYc {π : List Nat} {n k : Nat} (h : ∀ i, i < n → π.getD i 0 < k) : ∀ (s : SV), ws n s → ws k (yH π s)
  | .v _, _ => trivial
  | .bl _, _ => trivial
  | .p i off, hs => h i hs
  | .o i, hs => h i hs
  | .q i off, hs => h i hs
  | .m i, hs => h i hs
  | .sl i _ _ _, hs => h i hs
  | .x i p, hs => h i hs
  | .xp i p sz k j, hs => h i hs
  | .qk i sz k j, hs => h i hs
  | .agg cs, hs => qBi h cs hs
  | .tup cs, hs => qBi h cs hs
  | .fn f x c, hs => ⟨qBi h x hs.1, qBi h c hs.2⟩
  | .ifc t y, hs => qYc h y hs
theorem qBi {π : List Nat} {n k : Nat} (h : ∀ i, i < n → π.getD i 0 < k) : ∀ (l : List SV), wsL n l → wsL k (qCe π l)
  | [], _ => trivial
  | x :: r, hs => ⟨qYc h x hs.1, qBi h r hs.2⟩
end
theorem zFt{π:List Nat}{n k:Nat}(h:∀ i,i<n→π.getD i 0<k){x:HO}(hx:x.ws n):(jN π x).ws k:=by
 cases x with
 | cells cs T=>exact qBi h cs hx
 | row T sz n xs=>exact qBi h xs hx
 | mp ag ks kl c=>exact Mc.ws_map n k (qCe π) c (fun xs _=>qBi h xs) hx
 | tbl T0 T1 sz q c hole =>
  intro k2 m2 hk
  cases hole with
  | none=>cases hk
  | some x =>
   simp only[Option.map_some,sI,pI] at hk
   have:=h x.2 (hx x.1 x.2 rfl)
   omega
 | _=>trivial
theorem qCo{π:List Nat}{n:Nat}{a b:Env}(h:via π n a b){i:Nat}(hi:i<n){x:HO}:(jN π x).own b (π.getD i 0)=x.own a i:=by
 obtain⟨h1,h2,h3⟩:=h i hi
 cases x with
 | tbl T0 T1 sz q c hole=>funext y; simp only[HO.own,jN,h2,h3,qCx (fun m=>π.getD m 0)]
 | _=>funext y; simp only[HO.own,jN,h1,h2]
theorem zJq{π:List Nat}{n:Nat}{a b:Env}(h:via π n a b){i:Nat}(hi:i<n){x:HO}(hw:x.ws n){M M':Mem}{w:World}(hx:∀ c,x≠.ext true c)(hM:(M.sub a.z).le (M'.sub b.z))(hs:x.sat a M i w):(jN π x).sat b M' (π.getD i 0) w:=by
 obtain⟨h1,h2,h3⟩:=h i hi
 cases x with
 | cells cs T =>
  simp only[HO.sat,jN] at hs ⊢
  rw[yK h cs hw,h1]
  exact hs
 | row T sz n xs =>
  simp only[HO.sat,jN] at hs ⊢
  rw[yK h xs hw,h2]
  exact hs
 | rowc T sz n c =>
  obtain⟨qR,v1,v2,v3⟩:=hs
  simp only[HO.sat,jN]
  rw[h2]
  exact⟨qR,v1,v2,qY hM v3⟩
 | ext b0 c =>
  cases b0 with
  | true=>exact absurd rfl (hx c)
  | false =>
   simp only[HO.sat,jN] at hs ⊢
   rw[h3]
   exact zT hM _ _ _ hs
 | obj o =>
  simp only[HO.sat,jN] at hs ⊢
  rw[h1]
  exact hs
 | mp ag ks kl c =>
  have hc:(c.map (qCe π)).den b kl.length=c.den a kl.length:=Mc.den_map _ _ _ _ c fun xs hx=>yK h xs (by subst hx; exact hw)
  simp only[HO.sat,jN,hc] at hs ⊢
  rw[h1]
  exact hs
 | tbl T0 T1 sz q c hole =>
  refine wI h2 h3 (fun k=>?_) (fun k=>qCx (fun m=>π.getD m 0) hole k) hM (fun _ _=>rfl) hs
  cases hole with
  | none=>simp only[thd,Option.map_none,h3]
  | some x=>simp only[thd,Option.map_some,h3,(h x.2 (hw x.1 x.2 rfl)).2.1]
 | gone=>trivial
theorem zBz{π:List Nat}{n:Nat}{a b:Env}(h:via π n a b){i:Nat}(hi:i<n){x:HO}(hw:x.ws n){M M':Mem}{w:World}(hM0:M'.le M)(hM:(M'.sub b.z).le (M.sub a.z))(hs:(jN π x).sat b M' (π.getD i 0) w):x.sat a M i w:=by
 obtain⟨h1,h2,h3⟩:=h i hi
 cases x with
 | cells cs T =>
  simp only[HO.sat,jN] at hs ⊢
  rw[yK h cs hw,h1] at hs
  exact hs
 | row T sz n xs =>
  simp only[HO.sat,jN] at hs ⊢
  rw[yK h xs hw,h2] at hs
  exact hs
 | rowc T sz n c =>
  obtain⟨qR,v1,v2,v3⟩:=hs
  simp only[HO.sat]
  rw[h2] at v1
  exact⟨qR,v1,v2,qY hM v3⟩
 | ext b0 c =>
  simp only[HO.sat,jN] at hs ⊢
  rw[h3] at hs
  cases b0 with
  | true=>exact zT hM0 _ _ _ hs
  | false=>exact zT hM _ _ _ hs
 | obj o =>
  simp only[HO.sat,jN] at hs ⊢
  rw[h1] at hs
  exact hs
 | mp ag ks kl c =>
  have hc:(c.map (qCe π)).den b kl.length=c.den a kl.length:=Mc.den_map _ _ _ _ c fun xs hx=>yK h xs (by subst hx; exact hw)
  simp only[HO.sat,jN,hc] at hs ⊢
  rw[h1] at hs
  exact hs
 | tbl T0 T1 sz q c hole =>
  refine wI h2.symm h3.symm (fun k=>?_) (fun k=>(qCx (fun m=>π.getD m 0) hole k).symm) hM (fun _ _=>rfl) hs
  cases hole with
  | none=>simp only[thd,Option.map_none,h3]
  | some x=>simp only[thd,Option.map_some,h3,(h x.2 (hw x.1 x.2 rfl)).2.1]
 | gone=>trivial
def qNu(x:HO)(A B:List HO):List HO :=
 match x with
 | .ext true _=>A
 | _=>B
theorem qLj(x:HO)(A B:List HO):((∃ c,x=.ext true c)∧qNu x A B=A)∨((∀ c,x≠.ext true c)∧qNu x A B=B):=by
 unfold qNu
 split
 ·exact .inl ⟨⟨_,rfl⟩,rfl⟩
 ·rename_i h
  exact .inr ⟨fun c hc=>h c hc,rfl⟩
def xY(ρ:List Nat):List Nat→List HO→List HO→List HO
 | j::r,x::t,H=>xY ρ r t (qNu x H (H.set j (jN ρ x)))
 | [],t,H=>H++t.map (jN ρ)
 | _::_,[],H=>H
def qAo:List Nat→List HO→List HO→Bool
 | j::r,x::t,H=>(match x with
  | .ext true _=>(match H[j]? with
   | some (.ext _ _)=>true
   | _=>false)
  | _=>true)&&qAo r t H
 | [],t,_=>qSo t
 | _::_,[],_=>false
def mvI(π:List Nat)(n l:Nat):List Nat:=π++qDa n (l-π.length)
theorem qVc:∀(n i j:Nat),j<n→(qDa i n)[j]?=some (i+j)
 | 0,_,j,h=>by omega
 | n+1,i,0,_=>rfl
 | n+1,i,j+1,h=>by
  rw[qDa,List.getElem?_cons_succ,qVc n (i+1) j (by omega)]
  congr 1; omega
theorem qGb:∀(π:List Nat) (t H:List HO),qAo π t H=true→π.length≤t.length
 | [],_,_,_=>Nat.zero_le _
 | j::r,x::t,H,h=>by
  simp only[qAo,Bool.and_eq_true] at h
  have:=qGb r t H h.2
  simp only[List.length_cons]; omega
 | j::r,[],H,h=>by cases h
theorem qIb(ρ:List Nat):∀(π:List Nat) (t H:List HO),π.length≤t.length→(xY ρ π t H).length=H.length+(t.length-π.length)
 | [],t,H,_=>by simp [xY]
 | j::r,x::t,H,h=>by
  rw[xY,qIb ρ r t _ (by simpa using h)]
  simp only[List.length_cons]
  have:(qNu x H (H.set j (jN ρ x))).length=H.length:=by
   rcases qLj x H (H.set j (jN ρ x)) with ⟨_,h1⟩ | ⟨_,h1⟩ <;> rw[h1]
   exact List.length_set
  rw[this]; omega
 | j::r,[],H,h=>by simp at h
theorem qOw(ρ:List Nat):∀(π:List Nat) (t H:List HO),xA π=true→π.length≤t.length→(∀ j∈π,j<H.length)→∀(i:Nat) (x:HO),(xY ρ π t H)[i]?=some x →
  (∃(j:Nat) (y:HO),π[j]?=some i∧t[j]?=some y∧(((∃ c,y=.ext true c)∧H[i]?=some x)∨((∀ c,y≠.ext true c)∧x=jN ρ y)))∨(i∉π∧H[i]?=some x)∨(∃(j:Nat) (y:HO),i=H.length+j∧t[π.length+j]?=some y∧x=jN ρ y)
 | [],t,H,_,_,_,i,x,hx=>by
  rw[xY,List.getElem?_append] at hx
  split at hx
  ·exact .inr (.inl ⟨List.not_mem_nil,hx⟩)
  ·rename_i hge
   rw[List.getElem?_map,Option.map_eq_some_iff] at hx
   obtain⟨y,h1,h2⟩:=hx
   exact .inr (.inr ⟨i-H.length,y,by omega,by rw[List.length_nil,Nat.zero_add]; exact h1,h2.symm⟩)
 | j0::r,x0::t,H,hn,hl,hlt,i,x,hx=>by
  rw[xY] at hx
  have hn':xA r=true:=by simp only[xA,Bool.and_eq_true] at hn; exact hn.2
  have hj0:j0∉r:=fun hm=>by
   obtain⟨k,hk⟩:=List.getElem?_of_mem hm
   have:=qBg (j0::r) hn 0 (k+1) j0 rfl (by rw[List.getElem?_cons_succ]; exact hk)
   omega
  generalize hH1:qNu x0 H (H.set j0 (jN ρ x0))=H1 at hx
  have hcase:=qLj x0 H (H.set j0 (jN ρ x0))
  rw[hH1] at hcase
  have hlen:H1.length=H.length:=by
   rcases hcase with ⟨_,h1⟩ | ⟨_,h1⟩ <;> rw[h1]
   exact List.length_set
  have hne:∀ k,k≠j0→H1[k]?=H[k]?:=fun k hk=>by
   rcases hcase with ⟨_,h1⟩ | ⟨_,h1⟩ <;> rw[h1]
   exact List.getElem?_set_ne (Ne.symm hk)
  have heq:H1[j0]?=some x→((∃ c,x0=.ext true c)∧H[j0]?=some x)∨((∀ c,x0≠.ext true c)∧x=jN ρ x0):=fun hh=>by
   rcases hcase with ⟨h0,h1⟩ | ⟨h0,h1⟩
   ·rw[h1] at hh
    exact .inl ⟨h0,hh⟩
   ·rw[h1,List.getElem?_set_self (hlt j0 (List.mem_cons_self ..)),sI] at hh
    exact .inr ⟨h0,hh.symm⟩
  rcases qOw ρ r t H1 hn' (by simpa using hl) (fun j hj=>by rw[hlen]; exact hlt j (List.mem_cons_of_mem _ hj)) i x hx with ⟨j,y,h1,h2,h3⟩ | ⟨h1,h2⟩ | ⟨j,y,h1,h2,h3⟩
  ·have hi:i≠j0:=fun hh=>hj0 (by rw[← hh]; exact List.mem_of_getElem? h1)
   rw[hne i hi] at h3
   exact .inl ⟨j+1,y,by rw[List.getElem?_cons_succ]; exact h1,by rw[List.getElem?_cons_succ]; exact h2,h3⟩
  ·by_cases hi:i=j0
   ·subst hi
    exact .inl ⟨0,x0,rfl,rfl,heq h2⟩
   ·rw[hne i hi] at h2
    exact .inr (.inl ⟨fun hm=>(List.mem_cons.1 hm).elim hi h1,h2⟩)
  ·exact .inr (.inr ⟨j,y,by rw[← hlen]; exact h1,by rw[List.length_cons,Nat.add_right_comm,List.getElem?_cons_succ]; exact h2,h3⟩)
 | j::r,[],H,_,hl,_,i,x,hx=>by simp at hl
theorem qLa:∀(π:List Nat) (t H:List HO),qAo π t H=true→∀(j i:Nat) (c:qB),π[j]?=some i→t[j]?=some (.ext true c)→∃ b c',H[i]?=some (.ext b c')
 | [],_,_,_,j,i,c,h1,_=>by simp at h1
 | j0::r,x0::t,H,h,j,i,c,h1,h2=>by
  simp only[qAo,Bool.and_eq_true] at h
  cases j with
  | zero =>
   simp only[List.getElem?_cons_zero,sI] at h1 h2
   subst h1 h2
   have:=h.1
   simp only at this
   split at this
   ·exact⟨_,_,by assumption⟩
   ·cases this
  | succ j=>exact qLa r t H h.2 j i c (by simpa using h1) (by simpa using h2)
 | j0::r,[],H,h,j,i,c,h1,h2=>by cases h
theorem qJz:∀(π:List Nat) (t H:List HO),qAo π t H=true→∀(j:Nat) (y:HO),t[π.length+j]?=some y→∀ c,y≠.ext true c
 | [],t,H,h,j,y,hy,c,hc=>by
  rw[List.length_nil,Nat.zero_add] at hy
  have:=List.all_eq_true.1 h y (List.mem_of_getElem? hy)
  rw[hc] at this
  cases this
 | j0::r,x0::t,H,h,j,y,hy,c,hc=>by
  simp only[qAo,Bool.and_eq_true] at h
  rw[List.length_cons,Nat.add_right_comm,List.getElem?_cons_succ] at hy
  exact qJz r t H h.2 j y hy c hc
 | j0::r,[],H,h,j,y,hy,c,hc=>by cases h
end Go.Sx
/- The frame of a call that writes what it is given. -/
namespace Go.Sx
open Go.RowKit
set_option linter.unusedVariables false
section
variable {P : Program} {X : Ext P} {B : Code} {n : Nat} {F : Mem → Prop} {w0 : wO} {fin : Exit → Act → World → Prop}
def sft(m:Nat)(e:Env):Env:=⟨fun i=>e.blk (m+i),fun i=>e.row (m+i),fun i=>e.val (m+i),fun i p=>e.one (m+i) p,e.z⟩
theorem zNl{π:List Nat}{n l i:Nat}(h:i<π.length):(mvI π n l).getD i 0=π.getD i 0:=by
 simp only[mvI,List.getD_eq_getElem?_getD,List.getElem?_append_left h]
theorem zLy{π:List Nat}{n l i:Nat}(h:π.length≤i)(h2:i<l):(mvI π n l).getD i 0=n+(i-π.length):=by
 simp only[mvI,List.getD_eq_getElem?_getD,List.getElem?_append_right h]
 rw[qVc _ _ _ (by omega),Option.getD_some]
theorem qCl{l:List Nat}{i x:Nat}(h:l[i]?=some x):l.getD i 0=x:=by
 simp only[List.getD_eq_getElem?_getD,h,Option.getD_some]
theorem qYd(hF:zP F){H:List HO}{e:Env}{w:World}(S:qP F w0 H e w){f:FuncId}{args args':List SV}{hs:List HO}{π:List Nat}(hn:xA π=true)(hh:qFe π H π=some hs)(ha:qFs π args=some args'){Q:SV→List HO→Prop}(hf:zS P π.length f args' hs Q)(hq:∀ r h',Q r h'→qAo π h' H=true):
  Calls P f (qN e args).toArray w (fun E w'=>∃ e2 r h',Q r h'∧E=.returned (den e2 (yH (mvI π H.length h'.length) r))∧qP F w0 (xY (mvI π H.length h'.length) π h' H) e2 w'∧zD H.length e e2∧ws (xY (mvI π H.length h'.length) π h' H).length (yH (mvI π H.length h'.length) r)):=by
 classical
 obtain⟨l1,l2⟩:=xJ π H π hh
 obtain⟨a1,a2⟩:=jU π args ha
 have hlt:∀ j∈π,j<H.length:=fun j hj=>by
  obtain⟨k,hk⟩:=List.getElem?_of_mem hj
  have hk1:=(List.getElem?_eq_some_iff.1 hk).1
  obtain⟨⟨j2,q1,q2⟩,_⟩:=l2 k hs[k] (List.getElem?_eq_getElem (by omega))
  rw[hk] at q1
  cases q1
  exact(List.getElem?_eq_some_iff.1 q2).1
 -- the blocks of what is not given
 let oth:Nat→Prop:=fun b=>∃(i:Nat) (x:HO),i∉π∧H[i]?=some x∧x.own e i b
 let z1:Nat→Prop:=fun b=>e.z b∨oth b
 let e1:Env:=⟨(zU π e).blk,(zU π e).row,(zU π e).val,(zU π e).one,z1⟩
 have v1:via π π.length e1 e:=fun i hi=>⟨rfl,rfl,rfl⟩
 have hsH:∀(i:Nat) (x:HO),hs[i]?=some x→i<π.length∧H[π.getD i 0]?=some (jN π x)∧x.ws π.length:=fun i x hx=>by
  obtain⟨⟨j,q1,q2⟩,q3⟩:=l2 i x hx
  exact⟨(List.getElem?_eq_some_iff.1 q1).1,by rw[qCl q1]; exact q2,q3⟩
 have own1:∀(i:Nat) (x:HO) (b:Nat),hs[i]?=some x→x.own e1 i b→∃ y,H[π.getD i 0]?=some y∧y.own e (π.getD i 0) b∧i<π.length:=fun i x b hx hb=>by
  obtain⟨q1,q2,q3⟩:=hsH i x hx
  exact⟨_,q2,by rw[qCo v1 q1]; exact hb,q1⟩
 have hi_mem:∀ i,i<π.length→π.getD i 0∈π:=fun i hi=>by
  rw[qCl (List.getElem?_eq_getElem hi)]; exact List.getElem_mem hi
 have hinj:∀ i i2,i<π.length→i2<π.length→π.getD i 0=π.getD i2 0→i=i2:=fun i i2 h1 h2 hq=>by
  rw[qCl (List.getElem?_eq_getElem h1),qCl (List.getElem?_eq_getElem h2)] at hq
  exact qBg π hn i i2 _ (List.getElem?_eq_getElem h1) (by rw[hq]; exact List.getElem?_eq_getElem h2)
 -- an owned block is owned within or without
 have owned_split:∀ b,xO e H b→xO e1 hs b∨oth b:=by
  rintro b ⟨i,x,hx,hb⟩
  by_cases hi:i∈π
  ·obtain⟨k,hk⟩:=List.getElem?_of_mem hi
   have hk1:=(List.getElem?_eq_some_iff.1 hk).1
   have hx2:hs[k]?=some hs[k]:=List.getElem?_eq_getElem (by omega)
   obtain⟨q1,q2,q3⟩:=hsH k _ hx2
   rw[qCl hk,hx] at q2
   cases q2
   refine .inl ⟨k,_,hx2,?_⟩
   rw[← qCo v1 q1,qCl hk]
   exact hb
  ·exact .inr ⟨i,x,hi,hx,hb⟩
 have oth_not:∀ b,oth b→¬ xO e1 hs b:=by
  rintro b ⟨i,x,hi,hx,hb⟩ ⟨k,y,hy,hb2⟩
  obtain⟨y',q1,q2,q3⟩:=own1 k y b hy hb2
  have:=S.one i _ x y' b hx q1 hb q2
  exact hi (this ▸ hi_mem k q3)
 have oth_owned:∀ b,oth b→xO e H b:=fun b ⟨i,x,_,hx,hb⟩=>⟨i,x,hx,hb⟩
 have in_owned:∀ b,xO e1 hs b→xO e H b:=fun b ⟨i,x,hx,hb⟩=>by
  obtain⟨y,q1,q2,_⟩:=own1 i x b hx hb
  exact⟨_,y,q1,q2⟩
 have hM1:(mem w e H).le (mem w e1 hs):=by
  intro b o hbo
  unfold mem at hbo ⊢
  split at hbo
  ·cases hbo
  ·rename_i ho
   rw[if_neg (fun h=>ho (in_owned b h))]
   exact hbo
 have hM1z:((mem w e H).sub e.z).le ((mem w e1 hs).sub e1.z):=by
  intro b o hbo
  unfold Mem.sub at hbo ⊢
  split at hbo
  ·cases hbo
  ·rename_i hz
   have hbo':=hbo
   unfold mem at hbo'
   split at hbo'
   ·cases hbo'
   ·rename_i ho
    rw[if_neg (fun h=>h.elim hz (fun h=>ho (oth_owned b h)))]
    exact hM1 b o hbo
 let F1:Mem→Prop:=fun M=>(mem w e1 hs).le M
 have hF1:zP F1:=fun M M' hle h b o hbo=>hle b o (h b o hbo)
 have S1:qP F1 ⟨w,z1,π.length,e1⟩ hs e1 w:=by
  refine⟨rfl,rfl,rfl,fun i x hx=>?_,fun i x hx=>?_,fun i j x y b hx hy hb hb2=>?_,fun b o h=>h,fun i x b hx hb=>?_,?_,rfl,?_⟩
  ·obtain⟨q1,q2,q3⟩:=hsH i x hx
   exact zBz v1 q1 q3 hM1 hM1z (S.sat _ _ q2)
  ·rw[l1]; exact(hsH i x hx).2.2
  ·obtain⟨x',q1,q2,q3⟩:=own1 i x b hx hb
   obtain⟨y',r1,r2,r3⟩:=own1 j y b hy hb2
   exact hinj i j q3 r3 (S.one _ _ x' y' b q1 r1 q2 r2)
  ·rintro(hz | ho)
   ·obtain⟨x',q1,q2,q3⟩:=own1 i x b hx hb
    exact S.nz _ x' b q1 q2 hz
   ·exact oth_not b ho ⟨i,x,hx,hb⟩
  ·rintro b (h | ⟨i,x,_,hx,h⟩)
   ·exact S.zlt b h
   ·exact HO.own_lt (S.sat i x hx) h
  ·exact⟨by rw[l1]; exact Nat.le_refl _,fun i _=>⟨rfl,rfl,rfl⟩⟩
 have hc:=hf F1 hF1 ⟨w,z1,π.length,e1⟩ e1 rfl S1 (by rw[l1]; exact a2)
 rw[← yK v1 args' a2,a1] at hc
 refine hc.mono fun E w' hE=>?_
 obtain⟨e',r,h',q1,q2,S2,rfl⟩:=hE
 have hok:=hq r h' q1
 have hlen:π.length≤h'.length:=qGb π h' H hok
 have hH2:=qIb (mvI π H.length h'.length) π h' H hlen
 generalize hρ:mvI π H.length h'.length=ρ at hH2
 let e2:Env:=yB H.length e (sft π.length e')
 have hag:zD H.length e e2:=qId H.length e (sft π.length e')
 have ρlo:∀ i,i<π.length→ρ.getD i 0=π.getD i 0:=fun i hi=>by rw[← hρ]; exact zNl hi
 have ρhi:∀ i,π.length≤i→i<h'.length→ρ.getD i 0=H.length+(i-π.length):=fun i hi h2=>by rw[← hρ]; exact zLy hi h2
 have v2:via ρ h'.length e' e2:=fun i hi=>by
  rcases Nat.lt_or_ge i π.length with h1 | h1
  ·have hp:=hlt _ (hi_mem i h1)
   obtain⟨b1,b2,b3⟩:=S2.pin.2 i h1
   obtain⟨c1,c2,c3⟩:=hag.1 _ hp
   rw[ρlo i h1,c1,c2,c3,b1,b2,b3]
   exact⟨rfl,rfl,rfl⟩
  ·rw[ρhi i h1 hi]
   obtain⟨c1,c2,c3⟩:=wU H.length e (sft π.length e') (i-π.length)
   rw[show e2=yB H.length e (sft π.length e') from rfl,c1,c2,c3]
   refine⟨?_,?_,?_⟩ <;> simp only[sft,Nat.add_sub_cancel' h1]
 have ρlt:∀ i,i<h'.length→ρ.getD i 0<(xY ρ π h' H).length:=fun i hi=>by
  rw[hH2]
  rcases Nat.lt_or_ge i π.length with h1 | h1
  ·rw[ρlo i h1]
   have:=hlt _ (hi_mem i h1)
   omega
  ·rw[ρhi i h1 hi]; omega
 have get2:∀(i:Nat) (x:HO),(xY ρ π h' H)[i]?=some x →
   (∃(j:Nat) (y:HO),j<h'.length∧i=ρ.getD j 0∧h'[j]?=some y∧(∀ c,y≠.ext true c)∧x=jN ρ y)∨(H[i]?=some x∧(i∉π∨∃ b c,x=.ext b c)):=fun i x hx=>by
  rcases qOw ρ π h' H hn hlen hlt i x hx with ⟨j,y,g1,g2,g3⟩ | ⟨g1,g2⟩ | ⟨j,y,g1,g2,g3⟩
  ·have hj:=(List.getElem?_eq_some_iff.1 g1).1
   rcases g3 with ⟨⟨c,hc⟩,g3⟩ | ⟨g3,g4⟩
   ·obtain⟨b,c',hb⟩:=qLa π h' H hok j i c g1 (by rw[g2,hc])
    rw[hb] at g3
    cases g3
    exact .inr ⟨hb,.inr ⟨b,c',rfl⟩⟩
   ·exact .inl ⟨j,y,by omega,by rw[ρlo j hj,qCl g1],g2,g3,g4⟩
  ·exact .inr ⟨g2,.inl g1⟩
  ·have hj:=(List.getElem?_eq_some_iff.1 g2).1
   exact .inl ⟨π.length+j,y,hj,by rw[ρhi _ (Nat.le_add_right _ _) hj,g1]; omega,g2,qJz π h' H hok j y g2,g3⟩
 have ρinj:∀ i i2,i<h'.length→i2<h'.length→ρ.getD i 0=ρ.getD i2 0→i=i2:=fun i i2 h1 h2 hq=>by
  rcases Nat.lt_or_ge i π.length with g1 | g1 <;> rcases Nat.lt_or_ge i2 π.length with g2 | g2
  ·rw[ρlo i g1,ρlo i2 g2] at hq; exact hinj i i2 g1 g2 hq
  ·rw[ρlo i g1,ρhi i2 g2 h2] at hq; have:=hlt _ (hi_mem i g1); omega
  ·rw[ρhi i g1 h1,ρlo i2 g2] at hq; have:=hlt _ (hi_mem i2 g2); omega
  ·rw[ρhi i g1 h1,ρhi i2 g2 h2] at hq; omega
 have owned2:∀ b,xO e2 (xY ρ π h' H) b→xO e' h' b∨oth b:=by
  rintro b ⟨i,x,hx,hb⟩
  rcases get2 i x hx with ⟨j,y,g1,g2,g3,_,g4⟩ | ⟨g1,g2⟩
  ·rw[g4,g2,qCo v2 g1] at hb
   exact .inl ⟨j,y,g3,hb⟩
  ·have hi:=(List.getElem?_eq_some_iff.1 g1).1
   rcases g2 with g2 | ⟨b0,c,hc⟩
   ·rw[HO.own_agree hi hag] at hb
    exact .inr ⟨i,x,g2,g1,hb⟩
   ·rw[hc] at hb; cases hb
 have hM2:(mem w e H).le (mem w' e2 (xY ρ π h' H)):=by
  intro b o hbo
  have h1:=S2.fact b o (hM1 b o hbo)
  unfold mem at hbo h1 ⊢
  split at hbo
  ·cases hbo
  ·rename_i ho
   split at h1
   ·cases h1
   ·rename_i ho2
    rw[if_neg (fun h=>(owned2 b h).elim ho2 (fun h=>ho (oth_owned b h)))]
    exact h1
 have hM2z:((mem w' e' h').sub e'.z).le ((mem w' e2 (xY ρ π h' H)).sub e2.z):=by
  rw[S2.ez]
  intro b o hbo
  unfold Mem.sub at hbo
  split at hbo
  ·cases hbo
  ·rename_i hz
   have hz':¬ (e.z b∨oth b):=hz
   unfold Mem.sub
   rw[if_neg (fun h:e2.z b=>hz' (.inl h))]
   unfold mem at hbo ⊢
   split at hbo
   ·cases hbo
   ·rename_i ho2
    rw[if_neg (fun h=>(owned2 b h).elim ho2 (fun h=>hz' (.inr h)))]
    exact hbo
 have keep:∀ b,oth b→w'.heap[b]?=w.heap[b]?:=by
  intro b hb
  obtain⟨i,x,hi,hx,hb2⟩:=hb
  have hlt2:b<w.heap.size:=HO.own_lt (S.sat i x hx) hb2
  have h1:w.heap[b]?=some w.heap[b]:=Array.getElem?_eq_getElem hlt2
  have h2:mem w e1 hs b=some w.heap[b]:=by
   unfold mem
   rw[if_neg (oth_not b ⟨i,x,hi,hx,hb2⟩)]
   exact h1
  rw[h1]
  exact jH w' e' h' b _ (S2.fact b _ h2)
 refine⟨e2,r,h',q1,?_⟩
 rw[hρ]
 refine⟨by rw[qQh v2 r q2],?_,hag,qYc ρlt r q2⟩
 refine⟨S2.os.trans S.os,S2.tape.trans S.tape,S2.output.trans S.output,?_,?_,?_,hF _ _ hM2 S.fact,?_,fun b hb=>?_,S.ez,by rw[hH2]; exact Nat.le_trans S.pin.1 (Nat.le_add_right _ _),fun i hi=>?_⟩
 ·intro i x hx
  rcases get2 i x hx with ⟨j,y,g1,g2,g3,g4,g5⟩ | ⟨g1,g2⟩
  ·rw[g5,g2]
   exact zJq v2 g1 (S2.ws j y g3) g4 hM2z (S2.sat j y g3)
  ·have hi:=(List.getElem?_eq_some_iff.1 g1).1
   refine HO.sat_keep hM2 hi hag (S.ws i x g1) (S.sat i x g1) fun b hb=>?_
   rcases g2 with g2 | ⟨b0,c,hc⟩
   ·exact keep b ⟨i,x,g2,g1,hb⟩
   ·rw[hc] at hb; cases hb
 ·intro i x hx
  rcases get2 i x hx with ⟨j,y,g1,g2,g3,g4,g5⟩ | ⟨g1,g2⟩
  ·rw[g5]
   exact zFt ρlt (S2.ws j y g3)
  ·exact HO.ws_mono (by rw[hH2]; omega) (S.ws i x g1)
 ·intro i i2 x x2 b hx hx2 hb hb2
  have nown:∀(j:Nat) (y:HO),h'[j]?=some y→y.own e' j b→¬ oth b:=fun j y hy hb ho=>by
   have:=S2.nz j y b hy hb
   rw[S2.ez] at this
   exact this (.inr ho)
  have hoth:∀(i:Nat) (x:HO),H[i]?=some x→(i∉π∨∃ b c,x=.ext b c)→x.own e2 i b→oth b∧x.own e i b:=fun i x g1 g2 hb=>by
   rcases g2 with g2 | ⟨b0,c,hc⟩
   ·rw[HO.own_agree (List.getElem?_eq_some_iff.1 g1).1 hag] at hb
    exact⟨⟨i,x,g2,g1,hb⟩,hb⟩
   ·rw[hc] at hb; cases hb
  rcases get2 i x hx with ⟨j,y,g1,g2,g3,g4,g5⟩ | ⟨g1,g2⟩
  ·rw[g5,g2,qCo v2 g1] at hb
   rcases get2 i2 x2 hx2 with ⟨j2,y2,k1,k2,k3,k4,k5⟩ | ⟨k1,k2⟩
   ·rw[k5,k2,qCo v2 k1] at hb2
    rw[g2,k2,S2.one j j2 y y2 b g3 k3 hb hb2]
   ·exact(nown j y g3 hb (hoth i2 x2 k1 k2 hb2).1).elim
  ·rcases get2 i2 x2 hx2 with ⟨j2,y2,k1,k2,k3,k4,k5⟩ | ⟨k1,k2⟩
   ·rw[k5,k2,qCo v2 k1] at hb2
    exact(nown j2 y2 k3 hb2 (hoth i x g1 g2 hb).1).elim
   ·exact S.one i i2 x x2 b g1 k1 (hoth i x g1 g2 hb).2 (hoth i2 x2 k1 k2 hb2).2
 ·intro i x b hx hb
  rcases get2 i x hx with ⟨j,y,g1,g2,g3,g4,g5⟩ | ⟨g1,g2⟩
  ·rw[g5,g2,qCo v2 g1] at hb
   intro hz
   have:=S2.nz j y b g3 hb
   rw[S2.ez] at this
   exact this (.inl hz)
  ·rcases g2 with g2 | ⟨b0,c,hc⟩
   ·rw[HO.own_agree (List.getElem?_eq_some_iff.1 g1).1 hag] at hb
    exact S.nz i x b g1 hb
   ·rw[hc] at hb; cases hb
 ·refine S2.zlt b ?_
  rw[S2.ez]
  exact .inl hb
 ·obtain⟨a1,a2,a3⟩:=hag.1 i (Nat.lt_of_lt_of_le hi S.pin.1)
  obtain⟨b1,b2,b3⟩:=S.pin.2 i hi
  exact⟨a1.trans b1,a2.trans b2,a3.trans b3⟩
theorem Ok.callM(hF:zP F){it it':It}{k:List It}{st st1:St}{D:List Dec}{f:FuncId}{args args':List SV}{hs:List HO}{π:List Nat}{sd:List zF}{dst:Option Nat}(hx:qCs P B it st D=some (f,args,st1,sd,dst,it'))(hsd:yE F sd)(hnd:zFf B it=false)(hn:xA π=true)(hh:qFe π st1.heap π=some hs)(ha:qFs π args=some args'){Q:SV→List HO→Prop}(hf:zS P π.length f args' hs Q)(hq:∀ r h',Q r h'→qAo π h' st1.heap=true∧∃ st2,qJi n ⟨st1.tm,xY (mvI π st1.heap.length h'.length) π h' st1.heap⟩ dst (yH (mvI π st1.heap.length h'.length) r)=some st2∧Ok P B n F w0 fin (it'::k) st2):Ok P B n F w0 fin (it::k) st:=by
 refine Ok.callG hx hsd fun e a w S T=>(qYd hF S hn hh ha hf (fun r h' h=>(hq r h' h).1)).mono fun E w' hE=>?_
 obtain⟨e2,r,h',q1,rfl,S2,hag,hw⟩:=hE
 obtain⟨hok,st2,hput,hk⟩:=hq r h' q1
 refine⟨_,rfl,fun h=>(by rw[hnd] at h; cases h),?_⟩
 have hle:st1.heap.length≤(xY (mvI π st1.heap.length h'.length) π h' st1.heap).length:=by
  rw[qIb _ π h' st1.heap (qGb π h' st1.heap hok)]; omega
 obtain⟨p1,p2⟩:=yU (st:=⟨st1.tm,xY (mvI π st1.heap.length h'.length) π h' st1.heap⟩) T hag hle hput rfl hw
 exact hk _ _ w' (by rw[p2]; exact S2) (by rw[p2]; exact p1)
end
end Go.Sx
/- The run told as a statement: what is to be shown of each way through a body. -/
namespace Go.Sx
open Go.RowKit Go.Pl

structure Con (P:Program) where
 con:FuncId→List SV→List HO→Option ((SV→List HO→Prop)→Prop)
 ok:∀ f args h tr Q,con f args h=some tr→tr Q→qI P f args h Q
 /-- the functions that are given what they may write -/
 wr:FuncId→Bool
 conW:FuncId→List SV→List HO→Option ((SV→List HO→Prop)→Prop)
 okW:∀ f args h tr Q,conW f args h=some tr→tr Q→zS P h.length f args h Q
def Con.add{P:Program}(C:Con P)(f:FuncId)(g:List SV→List HO→Option ((SV→List HO→Prop)→Prop))(hg:∀ args h tr Q,g args h=some tr→tr Q→qI P f args h Q):Con P where
 con:=fun f' args h=>bif Nat.beq f' f then g args h else C.con f' args h
 ok:=by
  intro f' args h tr Q hc ht
  cases hb:Nat.beq f' f with
  | true =>
   have:=Nat.eq_of_beq_eq_true hb
   subst this
   simp only[hb,cond_true] at hc
   exact hg args h tr Q hc ht
  | false =>
   simp only[hb,cond_false] at hc
   exact C.ok f' args h tr Q hc ht
 wr:=C.wr
 conW:=C.conW
 okW:=C.okW
def Con.addW{P:Program}(C:Con P)(f:FuncId)(g:List SV→List HO→Option ((SV→List HO→Prop)→Prop))(hg:∀ args h tr Q,g args h=some tr→tr Q→zS P h.length f args h Q):Con P where
 con:=C.con
 ok:=C.ok
 wr:=fun f'=>bif Nat.beq f' f then true else C.wr f'
 conW:=fun f' args h=>bif Nat.beq f' f then g args h else C.conW f' args h
 okW:=by
  intro f' args h tr Q hc ht
  cases hb:Nat.beq f' f with
  | true =>
   have:=Nat.eq_of_beq_eq_true hb
   subst this
   simp only[hb,cond_true] at hc
   exact hg args h tr Q hc ht
  | false =>
   simp only[hb,cond_false] at hc
   exact C.okW f' args h tr Q hc ht
def Con.setW{P:Program}(C:Con P)(f:FuncId):Con P where
 con:=C.con
 ok:=C.ok
 wr:=fun f'=>bif Nat.beq f' f then true else C.wr f'
 conW:=C.conW
 okW:=C.okW
def Con.none(P:Program):Con P:=⟨fun _ _ _=>Option.none,fun _ _ _ _ _ h=>(by cases h),fun _=>false,fun _ _ _=>Option.none,fun _ _ _ _ _ h=>(by cases h)⟩
structure qMr where
 p:List Nat
 ks:List Nat
 nl:List (Nat×TypeId×Nat)
def zCd:List (List Nat×Nat)→List Nat→Option Nat
 | [],_=>none
 | (p,m)::r,q=>bif p.beq q then some m else zCd r q
def zIz:List qMr→List Nat→Option qMr
 | [],_=>none
 | x::r,q=>bif x.p.beq q then some x else zIz r q
def zAj:List (FuncId×List (List Nat×Nat))→FuncId→Option (List (List Nat×Nat))
 | [],_=>none
 | (f,u)::r,g=>bif Nat.beq f g then some u else zAj r g
structure Fx where
 B:Code
 n:Nat
 rs:List ResultVar
 U:List (List Nat×Nat)
 N:List qMr
 m:Nat
def qTb(st:St)(t:Nat):Option (Nat×Bool) :=
 match lk st.tm t with
 | some (.v (.bool b))=>some (t,b)
 | _=>none
def qHn(ops:Array Oper)(st:St)(o:Oper):Option (Nat×Bool) :=
 match (match o.guard with
  | some (j,_)=>match (ops[j]?).bind (·.dst) with
   | some t=>qTb st t
   | none=>none
  | none=>none) with
 | some r=>some r
 | none=>match o.op with
  | .pick (.tmp t) _ _=>qTb st t
  | _=>none
def qAl(ops:Array Oper)(st:St):List Nat→Option (Nat×Bool)
 | []=>none
 | i::r=>match ops[i]? with
  | some o=>match qHn ops st o with
   | some b=>some b
   | none=>qAl ops st r
  | none=>qAl ops st r
def qEe(B:Code)(k:List It)(st:St):Option (Nat×Bool) :=
 match k with
 | .at p::_=>match sub B p with
  | .cond (.tmp t) _ _=>qTb st t
  | _=>none
 | .ops p i::_=>match sub B p with
  | .region _ ops _=>match ops[i]? with
   | some o=>qHn ops st o
   | none=>none
  | _=>none
 | .one p _ _ i::_=>match sub B p with
  | .region _ ops _=>match ops[i]? with
   | some o=>qHn ops st o
   | none=>none
  | _=>none
 | .any p _ l::_=>match sub B p with
  | .region _ ops _=>qAl ops st (Region.ready .any ops l)
  | _=>none
 | _=>none
def zEe(B:Code)(k:List It)(st:St):Option Bool :=
 match k with
 | .ops p i::_=>match sub B p with
  | .region _ ops _=>match ops[i]? with
   | some o=>match o.op with
    | .next it true=>match evO st.tm it with
     | some (.p i 0)=>match st.heap[i]? with
      | some (.obj (.stringIter s pos))=>some (decide (pos<s.size))
      | _=>none
     | _=>none
    | _=>none
   | none=>none
  | _=>none
 | _=>none
def qDm(st:St)(t:Nat)(b:Bool):St:=⟨(t,.bl b)::del st.tm t,st.heap⟩
def qMu:List zF→Prop→Prop
 | [],Q=>Q
 | s::r,Q=>(∀ M,s M)∧qMu r Q
def zJo(g:qDd→Prop):List qDd→Prop
 | []=>True
 | l::r=>match r with
  | []=>g l
  | _=>g l∧zJo g r
def zFs(P:Program)(F:Fx)(st:St)(R:SV→List HO→Prop):Prop :=
 match qPm P F.m F.rs st with
 | some (r,h)=>R r h
 | none=>False
def qRo(F:Fx)(p:List Nat)(k:List It)(st:St)(K:List It→St→Prop):Prop :=
 match zIz F.N p with
 | some hd=>match qWh F.m hd.ks hd.nl st with
  | some st'=>K k st'
  | none=>False
 | none=>K k st
def qAc(F:Fx)(rec:Fx→List Dec→List It→St→(List It→St→Prop)→(SV→List HO→Prop)→Prop)(D:List Dec)(st1:St)(dst:Option Nat)(k:List It)(K:List It→St→Prop)(R:SV→List HO→Prop)(r:SV)(h':List HO):Prop :=
 bif qSo h' then match qJi F.n ⟨st1.tm,st1.heap++h'.map (shH st1.heap.length)⟩ dst (shS st1.heap.length r) with
  | some st2=>rec F D k st2 K R
  | none=>False
 else False
def qEq(F:Fx)(rec:Fx→List Dec→List It→St→(List It→St→Prop)→(SV→List HO→Prop)→Prop)(D:List Dec)(st1:St)(π:List Nat)(dst:Option Nat)(k:List It)(K:List It→St→Prop)(R:SV→List HO→Prop)(r:SV)(h':List HO):Prop :=
 bif qAo π h' st1.heap then match qJi F.n ⟨st1.tm,xY (mvI π st1.heap.length h'.length) π h' st1.heap⟩ dst (yH (mvI π st1.heap.length h'.length) r) with
  | some st2=>rec F D k st2 K R
  | none=>False
 else False
def qZj(P:Program)(C:Con P)(inl:List (FuncId×List (List Nat×Nat)))(F:Fx)(rec:Fx→List Dec→List It→St→(List It→St→Prop)→(SV→List HO→Prop)→Prop)(D:List Dec)(it:It)(k':List It)(st:St)(K:List It→St→Prop)(R:SV→List HO→Prop)(f:FuncId)(args:List SV)(st1:St)(dst:Option Nat)(it':It)(π:List Nat):Prop :=
 bif xA π&&!(zFf F.B it) then match qFs π args,qFe π st1.heap π with
  | some args',some hs=>match C.conW f args' hs with
   | some tr=>tr (qEq F rec D st1 π dst (it'::k') K R)
   | none=>match zAj inl f with
    | none=>K (it::k') st
    | some U=>match P.funcs[f]? with
     | some fn=>bif fn.body.isSome&&Nat.ble args'.length fn.ntmps then
       rec ⟨qBk fn,fn.ntmps,fn.results.toList,U,[],hs.length⟩ [] [.at []] ⟨qQ 0 args',hs⟩ (fun _ _=>False) (qEq F rec D st1 π dst (it'::k') K R)
      else False
     | none=>False
  | _,_=>K (it::k') st
 else K (it::k') st
def xst(P:Program)(C:Con P)(inl:List (FuncId×List (List Nat×Nat)))(F:Fx)(rec:Fx→List Dec→List It→St→(List It→St→Prop)→(SV→List HO→Prop)→Prop)(D:List Dec)(k:List It)(st:St)(K:List It→St→Prop)(R:SV→List HO→Prop):Prop :=
 match k with
 | []=>zFs P F st R
 | .ret::_=>zFs P F st R
 | .rnd q m::k'=>match zCd F.U q.tail with
  | some _=>match m with
   | m'+1=>rec F D (.at q::.rnd q m'::k') st K R
   | 0=>False
  | none=>qRo F q.tail (.rnd q m::k') st K
 | .at p::k'=>match sub F.B p with
  | .loop _=>match zCd F.U p with
   | some m=>rec F D (.rnd (0::p) m::k') st K R
   | none=>qRo F p (.at p::k') st K
  | _=>match qEe F.B (.at p::k') st with
   | some (t,b)=>bif b then rec F D (.at p::k') (qDm st t true) K R else rec F D (.at p::k') (qDm st t false) K R
   | none=>K (.at p::k') st
 | it::k'=>match qEe F.B (it::k') st with
  | some (t,b)=>bif b then rec F D (it::k') (qDm st t true) K R else rec F D (it::k') (qDm st t false) K R
  | none=>match zEe F.B (it::k') st with
  | some b=>bif b then rec F (.t::D) (it::k') st K R else rec F (.f::D) (it::k') st K R
  | none=>match qCs P F.B it st [] with
   | none=>K (it::k') st
   | some (f,args,st1,sd1,dst,it')=>bif C.wr f then qMu sd1 (qZj P C inl F rec D it k' st K R f args st1 dst it' (xI st1.heap 4 (wV args []))) else qMu sd1 (match qNi st1.heap 0 args with
    | none=>K (it::k') st
    | some (args',hs,sd2)=>qMu sd2 (match C.con f args' hs with
     | some tr=>tr (qAc F rec D st1 dst (it'::k') K R)
     | none=>match zAj inl f with
      | none=>K (it::k') st
      | some U=>match P.funcs[f]? with
       | some fn=>bif fn.body.isSome&&Nat.ble args'.length fn.ntmps then
         rec ⟨qBk fn,fn.ntmps,fn.results.toList,U,[],0⟩ [] [.at []] ⟨qQ 0 args',hs⟩ (fun _ _=>False) (qAc F rec D st1 dst (it'::k') K R)
        else False
       | none=>False))
def xwp(P:Program)(X:Ext P)(C:Con P)(inl:List (FuncId×List (List Nat×Nat))):Nat→Fx→List Dec→List It→St→(List It→St→Prop)→(SV→List HO→Prop)→Prop
 | 0,_,_,k,st,K,_=>K k st
 | f+1,F,D,k,st,K,R =>
  match wS P X F.B F.n 3000 D k st [] with
  | none=>False
  | some L=>zJo (fun l=>qMu l.sd (xst P C inl F (xwp P X C inl f) l.D l.k l.st K R)) L
structure W (p:Prop):Prop where
 h:p
theorem qJ{b:Bool}{T E:Prop}(h1:b=true→T)(h2:b=false→E):bif b then T else E:=by
 cases b
 ·exact h2 rfl
 ·exact h1 rfl
theorem qNb{B:Code}{k:List It}{st:St}{t:Nat}{b:Bool}(h:qEe B k st=some (t,b)):lk st.tm t=some (.v (.bool b)):=by
 have hs:∀ u,qTb st u=some (t,b)→lk st.tm t=some (.v (.bool b)):=by
  intro u hu
  unfold qTb at hu
  split at hu
  ·rename_i b' hb
   simp only[sI,pI] at hu
   obtain⟨rfl,rfl⟩:=hu
   exact hb
  ·cases hu
 have ho:∀ ops o,qHn ops st o=some (t,b)→lk st.tm t=some (.v (.bool b)):=by
  intro ops o hu
  unfold qHn at hu
  split at hu
  ·rename_i r hr
   simp only[sI] at hu
   subst hu
   split at hr
   ·split at hr
    ·exact hs _ hr
    ·cases hr
   ·cases hr
  ·split at hu
   ·exact hs _ hu
   ·cases hu
 have hr:∀ ops l,qAl ops st l=some (t,b)→lk st.tm t=some (.v (.bool b)):=by
  intro ops l
  induction l with
  | nil=>intro hu; cases hu
  | cons i r ih =>
   intro hu
   simp only[qAl] at hu
   split at hu
   ·split at hu
    ·rename_i x hx
     simp only[sI] at hu
     subst hu
     exact ho _ _ hx
    ·exact ih hu
   ·exact ih hu
 unfold qEe at h
 split at h
 ·split at h
  ·exact hs _ h
  ·cases h
 ·split at h
  ·split at h
   ·exact ho _ _ h
   ·cases h
  ·cases h
 ·split at h
  ·split at h
   ·exact ho _ _ h
   ·cases h
  ·cases h
 ·split at h
  ·exact hr _ _ h
  ·cases h
 ·cases h
theorem qWd{P:Program}{m:Nat}{fn:Func}{Q:SV→List HO→Prop}{k:List It}{st:St}{t:Nat}{b:Bool}(h:lk st.tm t=some (.v (.bool b)))(hk:zX P m fn Q k (qDm st t b)):zX P m fn Q k st:=by
 intro F hF w0 hm0 e a w S T
 refine hk F hF w0 hm0 e a w S (T.sub' ?_)
 intro u s hu
 simp only[qDm,lk] at hu
 cases hbq:Nat.beq t u with
 | true =>
  have:t=u:=Nat.eq_of_beq_eq_true hbq
  subst this
  simp only[hbq,cond_true,sI] at hu
  subst hu
  exact⟨_,h,rfl,trivial⟩
 | false =>
  have hne:t≠u:=fun hh=>by subst hh; simp at hbq
  simp only[hbq,cond_false] at hu
  rw[qAg _ _ _ hne] at hu
  exact⟨s,hu,rfl,T.wsc u s hu⟩
theorem qBy{F:Mem→Prop}:∀ {l:List zF} {Q:Prop},qMu l Q→yE F l∧Q
 | [],_,h=>⟨fun s hs=>(by cases hs),h⟩
 | s::r,Q,h=>by
  obtain⟨h1,h2⟩:=h
  obtain⟨a,b⟩:=qBy (F:=F) h2
  refine⟨fun x hx M hM=>?_,b⟩
  rcases List.mem_cons.1 hx with rfl | hx
  ·exact h1 M
  ·exact a x hx M hM
theorem qQb{g:qDd→Prop}:∀ {L:List qDd},zJo g L→∀ l∈L,g l
 | [],_,l,hl=>by cases hl
 | [x],h,l,hl=>by
  rw[List.mem_singleton] at hl
  subst hl
  exact h
 | x::y::r,h,l,hl=>by
  obtain⟨h1,h2⟩:=h
  rcases List.mem_cons.1 hl with rfl | hl
  ·exact h1
  ·exact qQb h2 l hl
theorem zXd{P:Program}{fn:Func}{R:Ending→World→Prop}:∀ c (a:Act) (d:Option Tmp) (v:Value) (w:World),bodyPost P fn R (.panic c) (a.put d v) w→bodyPost P fn R (.panic c) a w:=by
 intro c a d v w h
 cases d <;> exact h
section
variable {P : Program} {X : Ext P} {C : Con P} {inl : List (FuncId × List (List Nat × Nat))} (hm : P.follows .mixedOrders = true)
def fxM(m:Nat)(fn:Func)(U:List (List Nat×Nat))(N:List qMr):Fx:=⟨qBk fn,fn.ntmps,fn.results.toList,U,N,m⟩
def qO(fn:Func)(U:List (List Nat×Nat))(N:List qMr):Fx:=fxM 0 fn U N
omit hm in
theorem qMf{m:Nat}{fn:Func}{U:List (List Nat×Nat)}{N:List qMr}{p:List Nat}{k:List It}{st:St}{K:List It→St→Prop}{R:SV→List HO→Prop}(h:qRo (fxM m fn U N) p k st K)(hK:∀ k st,K k st→zX P m fn R k st):zX P m fn R k st:=by
 unfold qRo at h
 split at h
 ·split at h
  ·rename_i st' hst
   exact FOk.norm hst (hK _ _ h)
  ·exact h.elim
 ·exact hK _ _ h
omit hm in
theorem qLw{m:Nat}{fn:Func}{U:List (List Nat×Nat)}{N:List qMr}{st:St}{R:SV→List HO→Prop}(h:zFs P (fxM m fn U N) st R):∃ r h',qPm P m fn.results.toList st=some (r,h')∧R r h':=by
 unfold zFs at h
 split at h
 ·rename_i r h' hr
  exact⟨r,h',hr,h⟩
 ·exact h.elim

include hm in
theorem qHv:∀(fuel:Nat) {m:Nat} {fn:Func} {U:List (List Nat×Nat)} {N:List qMr} (D:List Dec) (k:List It) (st:St) (K:List It→St→Prop) (R:SV→List HO→Prop),
  xwp P X C inl fuel (fxM m fn U N) D k st K R→(∀ k st,K k st→zX P m fn R k st)→zX P m fn R k st
 | 0,m,fn,U,N,D,k,st,K,R,h,hK=>hK _ _ h
 | fuel+1,m,fn,U,N,D,k,st,K,R,h,hK=>by
  have ih:=fun{m:Nat} {fn:Func} {U:List (List Nat×Nat)} {N:List qMr} D k st K R (h:xwp P X C inl fuel (fxM m fn U N) D k st K R) (hK:∀ k st,K k st→zX P m fn R k st)=>qHv fuel D k st K R h hK
  unfold xwp at h
  split at h
  ·exact h.elim
  ·rename_i L hL
   intro F hF w0 hm0
   refine qKn hm hF zXd 3000 D k st [] hL fun l hl=>?_
   obtain⟨hsd,hx⟩:=qBy (F:=F) (qQb h l hl)
   refine⟨hsd,?_⟩
   have move:∀(it:It) (k':List It) (f:FuncId) (args:List SV) (st1:St) (sd1:List zF) (dst:Option Nat) (it':It) (π:List Nat),qCs P (fxM m fn U N).B it l.st []=some (f,args,st1,sd1,dst,it') →
     qMu sd1 (qZj P C inl (fxM m fn U N) (xwp P X C inl fuel) l.D it k' l.st K R f args st1 dst it' π)→zX P m fn R (it::k') l.st:=by
    intro it k' f args st1 sd1 dst it' π hcall hc F hF w0 hm0
    obtain⟨h1,h2⟩:=qBy (F:=F) hc
    unfold qZj at h2
    cases hnb:xA π&&!(zFf (fxM m fn U N).B it) with
    | false=>rw[hnb] at h2; exact hK _ _ h2 F hF w0 hm0
    | true =>
     rw[hnb] at h2
     simp only[cond_true] at h2
     rw[Bool.and_eq_true,Bool.not_eq_true'] at hnb
     split at h2
     ·rename_i args' hs ha hh
      have hlen:=(xJ π st1.heap π hh).1
      have fin:zS P π.length f args' hs (qEq (fxM m fn U N) (xwp P X C inl fuel) l.D st1 π dst (it'::k') K R)→Ok P (qBk fn) fn.ntmps F w0 (bodyPost P fn (zAv R F w0)) (it::k') l.st:=by
       intro hf
       refine Ok.callM hF hcall h1 hnb.2 hnb.1 hh ha hf fun r h' hq=>?_
       unfold qEq at hq
       cases hok:qAo π h' st1.heap with
       | false=>rw[hok] at hq; exact hq.elim
       | true =>
        rw[hok] at hq
        simp only[cond_true] at hq
        refine⟨rfl,?_⟩
        split at hq
        ·rename_i st2 hput
         exact⟨st2,hput,ih _ _ _ K R hq hK F hF w0 hm0⟩
        ·exact hq.elim
      split at h2
      ·rename_i tr htr
       exact fin (by rw[← hlen]; exact C.okW f args' hs tr _ htr h2)
      ·split at h2
       ·exact hK _ _ h2 F hF w0 hm0
       ·rename_i U' _
        split at h2
        ·rename_i fn' hfn
         cases hb:fn'.body.isSome&&Nat.ble args'.length fn'.ntmps with
         | false=>rw[hb] at h2; exact h2.elim
         | true =>
          rw[hb] at h2
          simp only[cond_true] at h2
          rw[Bool.and_eq_true] at hb
          exact fin (by rw[← hlen]; exact qL hfn hb.1 hb.2 (ih (m:=hs.length) (fn:=fn') (U:=U') (N:=[]) [] [.at []] ⟨qQ 0 args',hs⟩ _ _ h2 fun _ _ hh=>hh.elim))
        ·exact h2.elim
     ·exact hK _ _ h2 F hF w0 hm0
   have call:∀(it:It) (k':List It),(match qCs P (fxM m fn U N).B it l.st [] with
     | none=>K (it::k') l.st
     | some (f,args,st1,sd1,dst,it')=>bif C.wr f then qMu sd1 (qZj P C inl (fxM m fn U N) (xwp P X C inl fuel) l.D it k' l.st K R f args st1 dst it' (xI st1.heap 4 (wV args []))) else qMu sd1 (match qNi st1.heap 0 args with
      | none=>K (it::k') l.st
      | some (args',hs,sd2)=>qMu sd2 (match C.con f args' hs with
       | some tr=>tr (qAc (fxM m fn U N) (xwp P X C inl fuel) l.D st1 dst (it'::k') K R)
       | none=>match zAj inl f with
        | none=>K (it::k') l.st
        | some U'=>match P.funcs[f]? with
         | some fn'=>bif fn'.body.isSome&&Nat.ble args'.length fn'.ntmps then
           xwp P X C inl fuel ⟨qBk fn',fn'.ntmps,fn'.results.toList,U',[],0⟩ [] [.at []] ⟨qQ 0 args',hs⟩ (fun _ _=>False) (qAc (fxM m fn U N) (xwp P X C inl fuel) l.D st1 dst (it'::k') K R)
          else False
         | none=>False)))→zX P m fn R (it::k') l.st:=by
    intro it k' hc
    split at hc
    ·exact hK _ _ hc
    ·rename_i f args st1 sd1 dst it' hcall
     cases hwr:C.wr f with
     | true =>
      rw[hwr] at hc
      simp only[cond_true] at hc
      exact move it k' f args st1 sd1 dst it' _ hcall hc
     | false =>
     rw[hwr] at hc
     simp only[cond_false] at hc
     intro F hF w0 hm0
     obtain⟨h1,h2⟩:=qBy (F:=F) hc
     split at h2
     ·exact hK _ _ h2 F hF w0 hm0
     ·rename_i args' hs sd2 hbr
      obtain⟨h3,h4⟩:=qBy (F:=F) h2
      have fin:qI P f args' hs (qAc (fxM m fn U N) (xwp P X C inl fuel) l.D st1 dst (it'::k') K R)→Ok P (qBk fn) fn.ntmps F w0 (bodyPost P fn (zAv R F w0)) (it::k') l.st:=by
       intro hf
       refine Ok.callC hF hcall h1 hbr h3 hf fun r h' hq=>?_
       unfold qAc at hq
       cases hok:qSo h' with
       | false=>rw[hok] at hq; exact hq.elim
       | true =>
        rw[hok] at hq
        simp only[cond_true] at hq
        refine⟨rfl,?_⟩
        split at hq
        ·rename_i st2 hput
         exact⟨st2,hput,ih _ _ _ K R hq hK F hF w0 hm0⟩
        ·exact hq.elim
      split at h4
      ·rename_i tr htr
       exact fin (C.ok f args' hs tr _ htr h4)
      ·split at h4
       ·exact hK _ _ h4 F hF w0 hm0
       ·rename_i U' _
        split at h4
        ·rename_i fn' hfn
         cases hb:fn'.body.isSome&&Nat.ble args'.length fn'.ntmps with
         | false=>rw[hb] at h4; exact h4.elim
         | true =>
          rw[hb] at h4
          simp only[cond_true] at h4
          rw[Bool.and_eq_true] at hb
          exact fin (qL hfn hb.1 hb.2 (ih (m:=0) (fn:=fn') (U:=U') (N:=[]) [] [.at []] ⟨qQ 0 args',hs⟩ _ _ h4 fun _ _ hh=>hh.elim))
        ·exact h4.elim
   have spl:∀(b:Bool) (k0:List It),(bif b then xwp P X C inl fuel (fxM m fn U N) (.t::l.D) k0 l.st K R else xwp P X C inl fuel (fxM m fn U N) (.f::l.D) k0 l.st K R)→zX P m fn R k0 l.st:=by
    intro b k0 hb
    cases b with
    | true=>exact ih _ _ _ K R hb hK
    | false=>exact ih _ _ _ K R hb hK
   have spl2:∀(t:Nat) (b:Bool) (k0:List It),qEe (fxM m fn U N).B k0 l.st=some (t,b)→(bif b then xwp P X C inl fuel (fxM m fn U N) l.D k0 (qDm l.st t true) K R else xwp P X C inl fuel (fxM m fn U N) l.D k0 (qDm l.st t false) K R)→zX P m fn R k0 l.st:=by
    intro t b k0 ho hb
    refine qWd (qNb ho) ?_
    cases b with
    | true=>exact ih _ _ _ K R hb hK
    | false=>exact ih _ _ _ K R hb hK
   have main:zX P m fn R l.k l.st:=by
    unfold xst at hx
    split at hx
    ·rename_i hk
     obtain⟨r,h',hr,hR⟩:=qLw hx
     rw[hk]
     exact FOk.done hr hR
    ·rename_i k' hk
     obtain⟨r,h',hr,hR⟩:=qLw hx
     rw[hk]
     exact FOk.ret hr hR
    ·rename_i q m k' hk
     rw[hk]
     split at hx
     ·split at hx
      ·exact FOk.rnd (ih _ _ _ K R hx hK)
      ·exact hx.elim
     ·exact qMf hx hK
    ·rename_i p k' hk
     rw[hk]
     split at hx
     ·rename_i c hc
      split at hx
      ·rename_i d _
       exact FOk.loop d (by show(match sub (fxM m fn U N).B p with | .loop _=>true | _=>false)=true; rw[hc]) (ih _ _ _ K R hx hK)
      ·exact qMf hx hK
     ·split at hx
      ·rename_i t b hb
       exact spl2 t b _ hb hx
      ·exact hK _ _ hx
    ·rename_i it k' _ _ _ hk
     rw[hk]
     split at hx
     ·rename_i t b hb
      exact spl2 t b _ hb hx
     ·split at hx
      ·rename_i b _
       exact spl b _ hx
      ·exact call it k' hx
   exact main F hF w0 hm0

include hm in
theorem qT(fuel:Nat){m:Nat}{fn:Func}{U:List (List Nat×Nat)}{N:List qMr}{D:List Dec}{k:List It}{st:St}{R:SV→List HO→Prop}(h:W (xwp P X C inl fuel (fxM m fn U N) D k st (zX P m fn R) R)):zX P m fn R k st :=
 qHv hm fuel D k st _ R h.h fun _ _ h=>h
include hm in
theorem qC(fuel:Nat){fn:Func}{U:List (List Nat×Nat)}{N:List qMr}{D:List Dec}{k:List It}{st:St}{R:SV→List HO→Prop}(h:W (xwp P X C inl fuel (qO fn U N) D k st (FOk P fn R) R)):FOk P fn R k st :=
 qHv hm fuel D k st _ R h.h fun _ _ h=>h
end
end Go.Sx
/- Numbers of four words. -/
namespace Go.Pl
open Go.Sx

noncomputable def zQu(x y c:Nat):Nat:=zBk ((x+y+c)%18446744073709551616)
noncomputable def zSp(x y c:Nat):Nat:=zBk ((x+y+c) / 18446744073709551616)
noncomputable def zSj(x y c:Nat):Nat:=zBk ((x+18446744073709551616-y-c)%18446744073709551616)
noncomputable def zQi(x y c:Nat):Nat:=zBk (if x<y+c then 1 else 0)
theorem zGl(x y c:Nat):zQu x y c=(x+y+c)%18446744073709551616:=wZ _
theorem zFp(x y c:Nat):zSp x y c=(x+y+c) / 18446744073709551616:=wZ _
theorem zHz(x y c:Nat):zSj x y c=(x+18446744073709551616-y-c)%18446744073709551616:=wZ _
theorem zGk(x y c:Nat):zQi x y c=if x<y+c then 1 else 0:=wZ _
noncomputable def el(n:Nat):Value:=.agg #[.int .u64 (qF n 0:Nat),.int .u64 (qF n 1:Nat),.int .u64 (qF n 2:Nat),.int .u64 (qF n 3:Nat)]
def nv(a b c d:Nat):Nat:=a+18446744073709551616*b+340282366920938463463374607431768211456*c+6277101735386680763835789423207666416102355444464034512896*d
def top:Nat:=115792089237316195423570985008687907853269984665640564039457584007913129639936
theorem zJc(n:Nat):qF n 0=n%18446744073709551616:=by simp [qF,wZ]
theorem zIk(n:Nat):qF n 1=n / 18446744073709551616%18446744073709551616:=by simp [qF,wZ]
theorem zIv(n:Nat):qF n 2=n / 340282366920938463463374607431768211456%18446744073709551616:=by simp [qF,wZ]
theorem zIh(n:Nat):qF n 3=n / 6277101735386680763835789423207666416102355444464034512896%18446744073709551616:=by simp [qF,wZ]
theorem qZr(n:Nat):nv (qF n 0) (qF n 1) (qF n 2) (qF n 3)=n%top:=by
 simp only[nv,zJc,zIk,zIv,zIh,top]; omega
theorem zSl{a b c d:Nat}(ha:a<18446744073709551616)(hb:b<18446744073709551616)(hc:c<18446744073709551616)(hd:d<18446744073709551616):nv a b c d<top:=by
 simp only[nv,top]; omega
theorem qZs{a b c d:Nat}(ha:a<18446744073709551616)(hb:b<18446744073709551616)(hc:c<18446744073709551616)(hd:d<18446744073709551616):
  qF (nv a b c d) 0=a∧qF (nv a b c d) 1=b∧qF (nv a b c d) 2=c∧qF (nv a b c d) 3=d:=by
 simp only[nv,zJc,zIk,zIv,zIh]; omega
theorem qIz{a b:Nat}(ha:a<top)(hb:b<top)(h0:qF a 0=qF b 0)(h1:qF a 1=qF b 1)(h2:qF a 2=qF b 2)(h3:qF a 3=qF b 3):a=b:=by
 rw[← Nat.mod_eq_of_lt ha,← Nat.mod_eq_of_lt hb,← qZr a,← qZr b,h0,h1,h2,h3]
end Go.Pl
/- A law's end: what was there before the call is as it was. -/
namespace Go.Sx
open Go.ChangeShapes Go.WideShapes Go.ChangeAt Go.RowKit

section
variable {P : Program} {H : Type} {enc : TypeId × Value → H}
theorem qWm{f:Func}{s:ChangeSpec}{apart fresh handsOn again:Bool}{W W':World}{args:Array Value}{v:Value}{ds gs:List (DataW H)}{before pa pv:List MemPlace}(hW:DataW.Whole enc P f.params.toList s.vars apart W args.toList ds gs before)(hres:∀(b:Nat) (sp:Nat→Bool) (hd:Bool),DataW.TrodAll enc P W' b sp hd f.resultTypes.toList (v.resultList f.resultTypes.size) (s.fn H (ds++gs)).results [])(hargs:∀ sp:Nat→Bool,(∀ p∈before,sp p.block=true)→DataW.TrodAll enc P W' 0 sp true f.params.toList args.toList (s.fn H (ds++gs)).args pa)(hvars:∀ sp:Nat→Bool,(∀ p∈before,sp p.block=true)→DataW.TrodVars enc P W' sp s.vars (s.fn H (ds++gs)).vars pv)(hps:before=pa++pv)(hb:Below W.heap.size W W')(hok:∀(j:Nat) (t:TypeId) (r:Value),f.resultTypes[j]?=some t→(v.resultList f.resultTypes.size)[j]?=some r→Value.okWide P W' .any 0 t r):
  s.post enc P f apart fresh handsOn again W args v W':=by
 have hlt:∀ p∈before,p.block<W.heap.size:=fun p hp=>hW.lt p hp
 have yE:∀ p∈before,decide (p.block<W.heap.size)=true:=fun p hp=>decide_eq_true (hlt p hp)
 refine⟨ds,gs,before,[],pa,pv,hW,hres _ _ _,hargs (fun b=>decide (b<W.heap.size)) yE,hvars (fun b=>decide (b<W.heap.size)) yE,World.keptBut_mono (fun p hp=>⟨hp,?_⟩) (hb.frame (·∈before)),fun _=>?_⟩
 ·rw[hps,List.mem_append] at hp
  exact Or.inr hp
 ·have hW2:=hW
  obtain⟨_,_,_,_,_,hz,hn⟩:=hW2
  refine⟨hok,_,_,([]++pa)++pv,⟨[]++pa,pv,trodAll_append (hargs _ (fun _ _=>rfl)) (hres _ _ _),hvars _ (fun _ _=>rfl),rfl,?_,?_⟩,?_⟩
  ·intro b off hp
   have hp':MemPlace.cell b off∈before:=by rw[hps]; simpa using hp
   rw[hb.frozen (hlt _ hp')]
   exact hz b off hp'
  ·intro ha
   have:=hn ha
   rw[hps] at this
   simpa using this
  ·intro p hp _
   rw[hps]
   simpa using hp
end
end Go.Sx
/- Contents of rows, and what they stand for. -/
namespace Go.Sx
def IsC(n sz:Nat)(c c':Nat→Nat→qB):Prop:=∀ k,k<n→∀ j,j<sz→c k j=c' k j
theorem IsC.refl(n sz:Nat)(c:Nat→Nat→qB):IsC n sz c c:=fun _ _ _ _=>rfl
theorem IsC.symm{n sz:Nat}{c c':Nat→Nat→qB}(h:IsC n sz c c'):IsC n sz c' c:=fun k hk j hj=>(h k hk j hj).symm
theorem IsC.trans{n sz:Nat}{a b c:Nat→Nat→qB}(h:IsC n sz a b)(k:IsC n sz b c):IsC n sz a c:=fun i hi j hj=>(h i hi j hj).trans (k i hi j hj)
theorem qJu{n k:Nat}(a b:Nat→Nat→qB)(j:Nat)(h:k<n):qCf n a b k j=a k j:=by
 unfold qCf
 have:Nat.blt k n=true:=Nat.ble_eq_true_of_le h
 rw[this]; rfl
theorem xN{n k:Nat}(a b:Nat→Nat→qB)(j:Nat)(h:n≤k):qCf n a b k j=b (k-n) j:=by
 unfold qCf
 have:Nat.blt k n=false:=by
  rw[Bool.eq_false_iff]
  intro hh
  have:=Nat.le_of_ble_eq_true hh
  omega
 rw[this]; rfl
theorem IsC.app{n m sz:Nat}{a a' b b':Nat→Nat→qB}(h:IsC n sz a a')(k:IsC m sz b b'):IsC (n+m) sz (qCf n a b) (qCf n a' b'):=by
 intro i hi j hj
 by_cases hh:i<n
 ·rw[qJu _ _ _ hh,qJu _ _ _ hh]; exact h i hh j hj
 ·rw[xN _ _ _ (by omega),xN _ _ _ (by omega)]; exact k _ (by omega) j hj
theorem qJp(c:Nat→Nat→qB)(k j:Nat)(l:List qB)(k' j':Nat):qNa c k j l k' j'=if k'=k∧j≤j'∧j' - j<l.length then l.getD (j' - j) (.v undef) else c k' j':=by
 unfold qNa
 by_cases h1:k'=k
 ·subst h1
  rw[Nat.beq_refl,Bool.true_and]
  by_cases h2:j≤j'
  ·have hb:Nat.ble j j'=true:=Nat.ble_eq_true_of_le h2
   rw[hb,cond_true]
   by_cases h3:j' - j<l.length
   ·rw[if_pos ⟨rfl,h2,h3⟩,List.getElem?_eq_getElem h3,List.getD_eq_getElem?_getD,List.getElem?_eq_getElem h3]; rfl
   ·rw[if_neg (by omega),List.getElem?_eq_none (by omega)]
  ·have hb:Nat.ble j j'=false:=by
    rw[Bool.eq_false_iff]
    intro hh
    exact h2 (Nat.le_of_ble_eq_true hh)
   rw[hb,cond_false,if_neg (by omega)]
 ·have hb:Nat.beq k' k=false:=by
   rw[Bool.eq_false_iff]
   intro hh
   exact h1 (Nat.eq_of_beq_eq_true hh)
  rw[hb,Bool.false_and,cond_false,if_neg (by omega)]
end Go.Sx
namespace Go.Pl
open Go.Sx
def ofL{α:Type}(g:α→Nat→qB)(d:α)(l:List α):Nat→Nat→qB:=fun k j=>g (l.getD k d) j
theorem zHl{α:Type}(g:α→Nat→qB)(d:α)(sz:Nat)(a b:List α):IsC (a.length+b.length) sz (qCf a.length (ofL g d a) (ofL g d b)) (ofL g d (a++b)):=by
 intro k hk j _
 by_cases h:k<a.length
 ·rw[qJu _ _ _ h]
  simp only[ofL,List.getD_eq_getElem?_getD,List.getElem?_append_left h]
 ·rw[xN _ _ _ (by omega)]
  simp only[ofL,List.getD_eq_getElem?_getD,List.getElem?_append_right (show a.length≤k by omega)]
theorem xQ{α:Type}(g:α→Nat→qB)(d:α)(sz:Nat)(a:List α)(x:α)(cs:List qB)(hc:∀ j,j<sz→cs.getD j (.v undef)=g x j):IsC (a.length+1) sz (qCf a.length (ofL g d a) (lc sz cs)) (ofL g d (a++[x])):=by
 refine IsC.trans (IsC.app (IsC.refl _ _ _) (b':=ofL g d [x]) ?_) (zHl g d sz a [x])
 intro k hk j hj
 have:k=0:=by omega
 subst this
 simp only[lc,ofL,Nat.zero_mul,Nat.zero_add]
 exact hc j hj
theorem zHw{α:Type}(g:α→Nat→qB)(d:α)(sz:Nat)(l:List α)(k:Nat)(x:α)(cs:List qB)(hl:cs.length=sz)(hc:∀ j,j<sz→cs.getD j (.v undef)=g x j)(hk:k<l.length):IsC l.length sz (qNa (ofL g d l) k 0 cs) (ofL g d (l.set k x)):=by
 intro k' hk' j hj
 rw[qJp]
 by_cases h:k'=k
 ·subst h
  rw[if_pos ⟨rfl,by omega,by omega⟩,Nat.sub_zero,hc j hj]
  simp [ofL,hk]
 ·rw[if_neg (by omega)]
  simp only[ofL,List.getD_eq_getElem?_getD,List.getElem?_set_ne (Ne.symm h)]
theorem zCr{α:Type}(g:α→Nat→qB)(d:α)(sz n:Nat)(z:List Value)(hz:∀ j,j<sz→qB.v (z.getD j undef)=g d j):IsC n sz (qWq z) (ofL g d (List.replicate n d)):=by
 intro k hk j hj
 simp only[qWq,ofL,hz j hj]
 simp [hk]
end Go.Pl
namespace Go.Sx
abbrev qA(x:Int):Value:=.int .i64 x
abbrev qE(x:Int):Value:=.int .u64 x
theorem qD{α:Sort _}(p:Prop)[Decidable p](a b:α):(bif decide p then a else b)=if p then a else b:=by
 by_cases h:p <;> simp [h]
theorem zC{α:Sort _}(x y:Int)(a b:α):(bif x==y then a else b)=if x=y then a else b:=by
 by_cases h:x=y
 ·rw[if_pos h,beq_iff_eq.2 h]; rfl
 ·rw[if_neg h,beq_eq_false_iff_ne.2 h]; rfl
theorem qG{c:Prop}[Decidable c]{A B:Prop}(h1:c→A)(h2:¬ c→B):if c then A else B:=by
 by_cases h:c
 ·rw[if_pos h]; exact h1 h
 ·rw[if_neg h]; exact h2 h
theorem qV{α:Sort _}(x:Bool)(a b:α):(bif !x then a else b)=bif x then b else a:=by cases x <;> rfl
theorem zCe(z:Nat)(h:z<9223372036854775808):IntKind.wrap .i64 (z:Int)=z:=by
 have hb:((IntKind.bits .i64:Nat))=64:=rfl
 simp only[IntKind.wrap,IntKind.bits,IntKind.signed]
 simp
 omega
theorem qK(k:Nat)(h:k<9223372036854775807):IntKind.wrap .i64 ((k:Int)+1)=((k+1:Nat):Int):=by
 rw[show(k:Int)+1=((k+1:Nat):Int) by omega,zCe _ (by omega)]
theorem qBs(k:Nat)(h:k<9223372036854775807):IntKind.wrap .i64 ((k:Int)-1)=(k:Int)-1:=by
 simp only[IntKind.wrap,IntKind.bits,IntKind.signed]
 simp
 omega
theorem zE(z:Int)(h : -9223372036854775808≤z∧z<9223372036854775808):IntKind.wrap .i64 z=z:=by
 simp only[IntKind.wrap,IntKind.bits,IntKind.signed]
 simp
 omega
theorem zDb{c:Nat→Nat→qB}{k sz:Nat}{cs:List qB}(h:∀ j,j<sz→cs.getD j (.v undef)=c k j):IsC (k+1) sz (Ct.app k (.fn c) (.lit sz cs)).at c:=by
 intro i hi j hj
 show qCf k c (lc sz cs) i j=c i j
 by_cases hh:i<k
 ·rw[qJu _ _ _ hh]
 ·have:i=k:=by omega
  subst this
  rw[xN _ _ _ (Nat.le_refl _),Nat.sub_self]
  show cs.getD (0*sz+j) _=_
  rw[Nat.zero_mul,Nat.zero_add]
  exact h j hj
theorem zFy{c:Nat→Nat→qB}{k:Nat}{x:qB}(h:x=c k 0):IsC (k+1) 1 (Ct.app k (.fn c) (.lit 1 [x])).at c :=
 zDb fun j hj=>by
  have:j=0:=by omega
  subst this
  exact h
end Go.Sx
/- Arguments that come in: what their cells stand for, by their types. -/
namespace Go.Sx
open Go.RowKit Go.ChangeShapes Go.WideShapes Go.ChangeAt

def wOk{H:Type}(P:Program)(t:TypeId)(d:DataW H):Prop:=∀ x∈d.weights P t,x≤reachBytes
theorem qAi{H:Type}{P:Program}{e:TypeId}:∀ {l:List (DataW H)} {d:DataW H} {x:Nat},d∈l→x∈d.weights P e→x∈DataW.weightsAll P e l
 | [],_,_,h,_=>by cases h
 | y::r,d,x,h,hx=>by
  rw[DataW.weightsAll,List.mem_append]
  rcases List.mem_cons.1 h with rfl | h
  ·exact .inl hx
  ·exact .inr (qAi h hx)
structure Cod (P:Program) (t:TypeId) (sz:Nat) {α:Type} (g:α→Nat→qB) (ok:α→Prop):Prop where
 cells:P.cellsOf t=sz
 opn:∀ {H:Type} {enc:TypeId×Value→H} {w:World} {base:Nat} {sp:Nat→Bool} {hd:Bool} {n:Nat} {cs:List Value} {d:DataW H} {p:List MemPlace},cs.length=sz→DataW.trod enc P w base sp hd n t cs=some (d,p)→wOk P t d →
  ∃ x:α,ok x∧∀ j,j<sz→∃ u,cs[j]?=some u∧yV (xD w) u (g x j)
theorem zEs{M:Mem}{x:Value}(h:x.oneCell'=true):yV M x (.v x):=⟨fun _=>x,fun _=>h,rfl,rfl⟩
section
variable {P : Program}
theorem Cod.int{t:TypeId}{k:IntKind}(hu:P.underlying t=some (.int k))(hc:P.cellsOf t=1):Cod P t 1 (fun(z:Int) _=>.v (.int k z)) (fun z=>(Lit.int k z).wf=true) where
 cells:=hc
 opn:=by
  intro H enc w base sp hd n cs d p _ h _
  obtain⟨z,rfl,_,hw⟩:=DataW.trod_int hu h
  refine⟨z,hw,fun j hj=>?_⟩
  have hj:j=0:=by omega
  subst hj
  exact⟨_,rfl,zEs rfl⟩
theorem Cod.bool{t:TypeId}(hu:P.underlying t=some .bool)(hc:P.cellsOf t=1):Cod P t 1 (fun(z:Bool) _=>.v (.bool z)) (fun _=>True) where
 cells:=hc
 opn:=by
  intro H enc w base sp hd n cs d p _ h _
  obtain⟨z,rfl,_⟩:=DataW.trod_bool hu h
  refine⟨z,trivial,fun j hj=>?_⟩
  have hj:j=0:=by omega
  subst hj
  exact⟨_,rfl,zEs rfl⟩
theorem Cod.mono{t:TypeId}{sz:Nat}{α:Type}{g:α→Nat→qB}{ok ok':α→Prop}(c:Cod P t sz g ok)(h:∀ x,ok x→ok' x):Cod P t sz g ok' where
 cells:=c.cells
 opn:=fun a b e=>by
  obtain⟨x,h1,h2⟩:=c.opn a b e
  exact⟨x,h _ h1,h2⟩
theorem Cod.conv{t:TypeId}{sz:Nat}{α β:Type}{g:α→Nat→qB}{g':β→Nat→qB}{ok:α→Prop}{ok':β→Prop}(c:Cod P t sz g ok)(h:∀ x,ok x→∃ y,ok' y∧∀ j,j<sz→g x j=g' y j):Cod P t sz g' ok' where
 cells:=c.cells
 opn:=fun a b e=>by
  obtain⟨x,h1,h2⟩:=c.opn a b e
  obtain⟨y,h3,h4⟩:=h x h1
  refine⟨y,h3,fun j hj=>?_⟩
  obtain⟨u,q1,q2⟩:=h2 j hj
  exact⟨u,q1,by rw[← h4 j hj]; exact q2⟩
theorem Cod.field{t:TypeId}{sz:Nat}{α:Type}{g:α→Nat→qB}{ok:α→Prop}(c:Cod P t sz g ok){off:Nat}{H:Type}{enc:TypeId×Value→H}{w:World}{base:Nat}{sp:Nat→Bool}{hd:Bool}{n:Nat}{cs:List Value}{xs:List (DataW H×List MemPlace)}{i:Nat}{ts:List TypeId}(h:DataW.trod enc P w base sp hd n t ((cs.drop off).take (P.cellsOf t))=xs[i]?)(hi:i<xs.length)(hw:∀ x∈DataW.weightsEach P ts (xs.map (·.1)),x≤reachBytes)(ht:ts[i]?=some t)(hl:off+sz≤cs.length):
  ∃ x:α,ok x∧∀ j,j<sz→∃ u,cs[off+j]?=some u∧yV (xD w) u (g x j):=by
 rw[List.getElem?_eq_getElem hi] at h
 obtain⟨x,h1,h2⟩:=c.opn (d:=xs[i].1) (p:=xs[i].2) (by rw[List.length_take,List.length_drop,c.cells]; omega) h (fun y hy=>hw y (DataW.weights_mem_each ht (by simp [List.getElem?_eq_getElem hi]) y hy))
 refine⟨x,h1,fun j hj=>?_⟩
 obtain⟨u,q1,q2⟩:=h2 j hj
 refine⟨u,?_,q2⟩
 rw[List.getElem?_take,c.cells,if_pos hj,List.getElem?_drop] at q1
 exact q1
theorem Cod.arr4{t e:TypeId}{α:Type}{g:α→Nat→qB}{ok:α→Prop}(c:Cod P e 1 g ok)(hu:P.underlying t=some (.array 4 e))(hc:P.cellsOf t=4):Cod P t 4 (fun(x:α×α×α×α) j=>match j with | 0=>g x.1 0 | 1=>g x.2.1 0 | 2=>g x.2.2.1 0 | _=>g x.2.2.2 0) (fun x=>ok x.1∧ok x.2.1∧ok x.2.2.1∧ok x.2.2.2) where
 cells:=hc
 opn:=by
  intro H enc w base sp hd n cs d p hl h hw
  match cs,hl with
  | [c0,c1,c2,c3],_ =>
   obtain⟨⟨y0,p0⟩,⟨y1,p1⟩,⟨y2,p2⟩,⟨y3,p3⟩,n',hx,h0,h1,h2,h3⟩:=trod_array4 hu c.cells h
   simp only[pI] at hx
   obtain⟨rfl,rfl⟩:=hx
   have hW:∀ y∈[y0,y1,y2,y3],wOk P e y:=fun y hy x hx=>hw x (by
    simp only[DataW.weights,hu]
    exact qAi hy hx)
   obtain⟨x0,o0,r0⟩:=c.opn rfl h0 (hW y0 (by simp))
   obtain⟨x1,o1,r1⟩:=c.opn rfl h1 (hW y1 (by simp))
   obtain⟨x2,o2,r2⟩:=c.opn rfl h2 (hW y2 (by simp))
   obtain⟨x3,o3,r3⟩:=c.opn rfl h3 (hW y3 (by simp))
   refine⟨(x0,x1,x2,x3),⟨o0,o1,o2,o3⟩,fun j hj=>?_⟩
   match j,hj with
   | 0,_=>exact r0 0 (by omega)
   | 1,_=>obtain⟨u,q1,q2⟩:=r1 0 (by omega); exact⟨u,q1,q2⟩
   | 2,_=>obtain⟨u,q1,q2⟩:=r2 0 (by omega); exact⟨u,q1,q2⟩
   | 3,_=>obtain⟨u,q1,q2⟩:=r3 0 (by omega); exact⟨u,q1,q2⟩
theorem Cod.slice{t e:TypeId}{sz:Nat}{α:Type}{g:α→Nat→qB}{ok:α→Prop}(c:Cod P e sz g ok)(hu:P.underlying t=some (.slice e))(hc:P.cellsOf t=1)(d0:α):
  Cod P t 1 (fun(l:List α) _=>.s false sz l.length (fun k j=>g (l.getD k d0) j)) (fun l=>(∀ x∈l,ok x)∧l.length*P.bytesOf e≤reachBytes) where
 cells:=hc
 opn:=by
  intro H enc w base sp hd fuel cs d p hl h hw
  rcases Go.Deep.open_slice hu h with ⟨rfl,_⟩ | ⟨a,len,cap,m,n,D,Pl,rfl,_,hlc,_,hmm,hx,hel⟩
  ·refine⟨[],⟨fun x hx=>(by cases hx),by simp⟩,fun j hj=>?_⟩
   have hj:j=0:=by omega
   subst hj
   refine⟨_,rfl,xV none 0 rfl (Nat.le_refl _) (.inl rfl) (qR:=[]) fun k hk=>?_⟩
   simp at hk
  ·simp only[pI] at hx
   obtain⟨rfl,rfl⟩:=hx
   have hlm:len≤m:=by rw[hmm]; split <;> omega
   have hwx:len*P.bytesOf e≤reachBytes:=by
    have:=hw ((((List.range len).map D).length+((List.range (m-len)).map fun j=>D (len+j)).length)*P.bytesOf e) (by simp [DataW.weights,hu])
    simp only[List.length_map,List.length_range] at this
    exact Nat.le_trans (Nat.mul_le_mul_right _ (by omega)) this
   have _inst:Inhabited (α×List Value):=⟨(d0,[])⟩
   obtain⟨f,hfn⟩:=Go.Deep.choose_lt (α:=α×List Value) (n:=len) (p:=fun i x=>ok x.1∧w.cells? base (a.add (i*sz)) sz=some x.2∧∀ j,j<sz→∃ u,x.2[j]?=some u∧yV (xD w) u (g x.1 j)) (fun i hi=>by
    obtain⟨cs',q1,q2⟩:=hel i (by omega)
    rw[c.cells] at q1
    obtain⟨_,ql,_⟩:=World.cells?_some q1
    obtain⟨x,r1,r2⟩:=c.opn ql q2 (fun y hy=>hw y (by
     simp only[DataW.weights,hu,List.mem_cons,List.mem_append]
     exact .inr (.inl (qAi (List.mem_map.2 ⟨i,List.mem_range.2 hi,rfl⟩) hy))))
    exact⟨(x,cs'),r1,q1,r2⟩)
   refine⟨(List.range len).map fun i=>(f i).1,⟨fun x hx=>?_,by simpa using hwx⟩,fun j hj=>?_⟩
   ·obtain⟨i,hi,rfl⟩:=List.mem_map.1 hx
    exact(hfn i (List.mem_range.1 hi)).1
   have hj:j=0:=by omega
   subst hj
   have hcell:∀ k,k<len→∀ j,j<sz→∃ u,(xD w).cell? (a.add (k*sz+j))=some u∧yV (xD w) u (g (f k).1 j):=fun k hk j hj=>by
    obtain⟨_,q1,q2⟩:=hfn k hk
    obtain⟨u,r1,r2⟩:=q2 j hj
    obtain⟨_,_,q3⟩:=World.cells?_some q1
    have:=q3 j hj
    rw[r1,Go.Deep.add_add] at this
    exact⟨u,this,r2⟩
   have hvals:∀ d,d<len*sz→((List.range (len*sz)).map fun d=>((xD w).cell? (a.add d)).getD undef)[d]?=some (((xD w).cell? (a.add d)).getD undef):=fun d hd=>by
    simp [hd]
   have hkj:∀ k j,k<len→j<sz→k*sz+j<len*sz:=fun k j hk hj=>by
    have:(k+1)*sz≤len*sz:=Nat.mul_le_mul_right _ hk
    rw[Nat.add_mul,Nat.one_mul] at this
    omega
   refine⟨_,rfl,xV (qR:=(List.range (len*sz)).map fun d=>((xD w).cell? (a.add d)).getD undef) (some a) cap (by simp) (by simpa using hlc) (.inr ⟨a,rfl,fun d u hd hv=>?_⟩) fun k hk j hj=>?_⟩
   ·simp only[List.length_map,List.length_range] at hd
    rw[hvals d hd,sI] at hv
    have hsz:0<sz:=by
     rcases Nat.eq_zero_or_pos sz with h0 | h0
     ·subst h0; simp at hd
     ·exact h0
    obtain⟨u',q1,_⟩:=hcell (d / sz) ((Nat.div_lt_iff_lt_mul hsz).2 hd) (d%sz) (Nat.mod_lt _ hsz)
    rw[show d / sz*sz+d%sz=d by rw[Nat.mul_comm]; exact Nat.div_add_mod d sz] at q1
    rw[q1] at hv ⊢
    rw[← hv]; rfl
   ·simp only[List.length_map,List.length_range] at hk
    obtain⟨u,q1,q2⟩:=hcell k hk j hj
    refine⟨u,?_,?_⟩
    ·rw[hvals _ (hkj k j hk hj),q1]; rfl
    ·have:((List.range len).map fun i=>(f i).1).getD k d0=(f k).1:=by
      rw[List.getD_eq_getElem?_getD]; simp [hk]
     rw[this]
     exact q2
theorem Cod.arg1{t:TypeId}{α:Type}{g:α→Nat→qB}{ok:α→Prop}(c:Cod P t 1 g ok){H:Type}{enc:TypeId×Value→H}{w:World}{base:Nat}{sp:Nat→Bool}{hd:Bool}{v:Value}{d:DataW H}{p:List MemPlace}(h:DataW.Trod enc P w base sp hd t v d p)(hw:wOk P t d)(hv:v.cells.toList=[v]):∃ x:α,ok x∧yV (xD w) v (g x 0):=by
 obtain⟨fuel,hf⟩:=h
 rw[hv] at hf
 obtain⟨x,h1,h2⟩:=c.opn rfl hf hw
 obtain⟨u,q1,q2⟩:=h2 0 (by omega)
 simp only[List.getElem?_cons_zero,sI] at q1
 subst q1
 exact⟨x,h1,q2⟩
theorem Cod.argN{t:TypeId}{sz:Nat}{α:Type}{g:α→Nat→qB}{ok:α→Prop}(c:Cod P t sz g ok){H:Type}{enc:TypeId×Value→H}{w:World}{base:Nat}{sp:Nat→Bool}{hd:Bool}{cs:Array Value}{d:DataW H}{p:List MemPlace}(h:DataW.Trod enc P w base sp hd t (.agg cs) d p)(hw:wOk P t d)(hs:cs.size=P.cellsOf t):∃ x:α,ok x∧∀ j,j<sz→∃ u,cs[j]?=some u∧yV (xD w) u (g x j):=by
 obtain⟨fuel,hf⟩:=h
 have hl:(Value.agg cs).cells.toList=cs.toList:=rfl
 rw[hl] at hf
 obtain⟨x,h1,h2⟩:=c.opn (by rw[Array.length_toList,hs,c.cells]) hf hw
 refine⟨x,h1,fun j hj=>?_⟩
 obtain⟨u,q1,q2⟩:=h2 j hj
 exact⟨u,by rw[← Array.getElem?_toList]; exact q1,q2⟩
theorem qP.start(W:World)(cs:List qB)(us:List Value)(hl:us.length=cs.length)(h:∀(i:Nat) u c,us[i]?=some u→cs[i]?=some c→yV (xD W) u c):
  ∃ e:Env,qP (fun M=>(xD W).le M) ⟨W,fun _=>False,0,e⟩ (cs.map fun c=>.ext false c) e W∧∀(i:Nat) (u:Value),us[i]?=some u→e.val i []=u:=by
 classical
 have key:∀ i:Nat,∃ f:yC→Value,(∀ p,(f p).oneCell'=true)∧∀ u c,us[i]?=some u→cs[i]?=some c→f []=u∧wQ (xD W) f c []:=fun i=>by
  cases hu:us[i]? with
  | none=>exact⟨fun _=>.bool true,fun _=>rfl,fun u c h=>(by cases h)⟩
  | some u =>
   cases hc:cs[i]? with
   | none=>exact⟨fun _=>.bool true,fun _=>rfl,fun u c _ h=>(by cases h)⟩
   | some c =>
    obtain⟨f,h1,h2,h3⟩:=h i u c hu hc
    exact⟨f,h1,fun u' c' e1 e2=>by cases e1; cases e2; exact⟨h2,h3⟩⟩
 refine⟨⟨fun _=>0,fun _=>.bool true,fun i=>(key i).choose,fun i p=>(key i).choose_spec.1 p,fun _=>False⟩,?_,fun i u hu=>?_⟩
 ·have hmem:∀ e,(xD W).le (mem W e (cs.map fun c=>.ext false c)):=fun e b o hb=>by
   unfold mem
   rw[if_neg]
   ·exact hb
   ·rintro⟨i,ho,hi,hown⟩
    rw[List.getElem?_map] at hi
    cases hc:cs[i]? with
    | none=>rw[hc] at hi; cases hi
    | some c =>
     rw[hc] at hi
     simp only[Option.map_some,sI] at hi
     subst hi
     cases hown
  have hext:∀(i:Nat) (ho:HO),(cs.map fun c=>HO.ext false c)[i]?=some ho→∃ c,cs[i]?=some c∧ho=.ext false c:=fun i ho hi=>by
   rw[List.getElem?_map] at hi
   cases hc:cs[i]? with
   | none=>rw[hc] at hi; cases hi
   | some c=>rw[hc] at hi; simp only[Option.map_some,sI] at hi; exact⟨c,rfl,hi.symm⟩
  refine⟨rfl,rfl,rfl,?_,?_,?_,hmem _,?_,fun b hb=>hb.elim,rfl,Nat.zero_le _,fun i hi=>absurd hi (Nat.not_lt_zero i)⟩
  ·intro i ho hi
   obtain⟨c,hc,rfl⟩:=hext i ho hi
   have hi2:i<us.length:=by rw[hl]; exact(List.getElem?_eq_some_iff.1 hc).1
   have:=((key i).choose_spec.2 us[i] c (List.getElem?_eq_getElem hi2) hc).2
   refine zT ?_ _ c [] this
   intro b o hb
   unfold Mem.sub
   simp only[Bool.false_eq_true,if_false]
   exact hmem _ b o hb
  ·intro i ho hi
   obtain⟨c,hc,rfl⟩:=hext i ho hi
   trivial
  ·intro i j ho ho' b hi _ hb
   obtain⟨c,hc,rfl⟩:=hext i ho hi
   cases hb
  ·intro i ho b hi hb
   obtain⟨c,hc,rfl⟩:=hext i ho hi
   cases hb
 ·have hi2:i<cs.length:=by rw[← hl]; exact(List.getElem?_eq_some_iff.1 hu).1
  exact((key i).choose_spec.2 u cs[i] hu (List.getElem?_eq_getElem hi2)).1
theorem zDh{f:FuncId}{args:List SV}{W:World}(cs:List qB)(us:List Value)(hl:us.length=cs.length)(h:∀(i:Nat) u c,us[i]?=some u→cs[i]?=some c→yV (xD W) u c)(hw:wsL cs.length args)(k:qI P f args (cs.map fun c=>.ext false c) fun r _=>r=.v (.bool true))(vs:List Value)(hvs:∀ e:Env,(∀(i:Nat) (u:Value),us[i]?=some u→e.val i []=u)→qN e args=vs):
  Calls P f vs.toArray W fun E w'=>E=.returned (.bool true)∧Below W.heap.size W w':=by
 obtain⟨e,S,he⟩:=qP.start W cs us hl h
 have:=k (fun M=>(xD W).le M) (fun M M' hM hF=>hF.trans hM) ⟨W,fun _=>False,0,e⟩ e rfl S (by simpa using hw)
 rw[hvs e he] at this
 refine this.mono fun E w' hE=>?_
 obtain⟨e',r,h',rfl,_,S',rfl⟩:=hE
 refine⟨rfl,?_⟩
 have yE:∀ b,b<W.heap.size→w'.heap[b]?=W.heap[b]?:=fun b hb=>by
  have h1:xD W b=some W.heap[b]:=Array.getElem?_eq_getElem hb
  have h2:=jH w' e' h' _ _ (S'.fact b _ h1)
  exact h2.trans h1.symm
 refine⟨S'.os,S'.tape,S'.output,?_,yE⟩
 rcases Nat.eq_zero_or_pos W.heap.size with h0 | h0
 ·omega
 ·have h3:=yE (W.heap.size-1) (by omega)
  have h4:W.heap[W.heap.size-1]?=some W.heap[W.heap.size-1]:=Array.getElem?_eq_getElem (by omega)
  rw[h4] at h3
  have h5:=(Array.getElem?_eq_some_iff.1 h3).1
  show W.heap.size≤w'.heap.size
  omega
end
end Go.Sx
/- Plain data: nodes, queries; what the document says of them. -/
namespace Go.Pl
open Go.Sx
structure Nd where
 op:Int
 a:Int
 b:Int
 v:Nat
def dN:Nd:=⟨0,0,0,0⟩
def gN(l:List Nd)(k:Nat):Nd:=l.getD k dN
noncomputable def qBo(x:Nd)(j:Nat):qB :=
 match j with
 | 0=>.v (.int .i64 x.op)
 | 1=>.v (.int .i64 x.a)
 | 2=>.v (.int .i64 x.b)
 | 3=>.v (.int .u64 (qF x.v 0:Nat))
 | 4=>.v (.int .u64 (qF x.v 1:Nat))
 | 5=>.v (.int .u64 (qF x.v 2:Nat))
 | 6=>.v (.int .u64 (qF x.v 3:Nat))
 | _=>.v undef
noncomputable def cN(l:List Nd):Nat→Nat→qB:=fun k j=>qBo (gN l k) j
def gI(l:List Int)(k:Nat):Int:=l.getD k 0
def cI(l:List Int):Nat→Nat→qB:=fun k _=>.v (.int .i64 (gI l k))
def gB(l:List Bool)(k:Nat):Bool:=l.getD k false
def cB(l:List Bool):Nat→Nat→qB:=fun k _=>.v (.bool (gB l k))
def dQ:Int×Int×Int:=(0,0,0)
def gQ(l:List (Int×Int×Int))(k:Nat):Int×Int×Int:=l.getD k dQ
def zIi(x:Int×Int×Int)(j:Nat):qB :=
 match j with
 | 0=>.v (.int .i64 x.1)
 | 1=>.v (.int .i64 x.2.1)
 | 2=>.v (.int .i64 x.2.2)
 | _=>.v undef
def cQ(l:List (Int×Int×Int)):Nat→Nat→qB:=fun k j=>zIi (gQ l k) j
def gE(l:List Nat)(k:Nat):Nat:=l.getD k 0
noncomputable def cE(l:List Nat):Nat→Nat→qB:=fun k j=>.v (.int .u64 (qF (gE l k) j:Nat))
def gK(l:List (Int×Int))(k:Nat):Int×Int:=l.getD k (0,0)
def zIw(x:Int×Int)(j:Nat):qB :=
 match j with
 | 0=>.v (.int .i64 x.1)
 | 1=>.v (.int .i64 x.2)
 | _=>.v undef
def cK(l:List (Int×Int)):Nat→Nat→qB:=fun k j=>zIw (gK l k) j
def gL(l:List (List Int×List Int))(k:Nat):List Int×List Int:=l.getD k ([],[])
def zEf(x:List Int×List Int)(j:Nat):qB :=
 match j with
 | 0=>.s false 1 x.1.length (cI x.1)
 | 1=>.s false 1 x.2.length (cI x.2)
 | _=>.v undef
def cL(l:List (List Int×List Int)):Nat→Nat→qB:=fun k j=>zEf (gL l k) j
theorem qEi{l:List Nd}{k:Nat}(h:k<l.length):l.drop k=gN l k::l.drop (k+1):=by
 rw[List.drop_eq_getElem_cons h,gN,List.getD_eq_getElem?_getD,List.getElem?_eq_getElem h]; rfl
theorem qEr{l:List Int}{k:Nat}(z:Int)(h:l.length=k):IsC (k+1) 1 (Ct.app k (.fn (cI l)) (.lit 1 [.v (.int .i64 z)])).at (Ct.fn (cI (l++[z]))).at:=by
 subst h
 exact xQ (fun(x:Int) _=>qB.v (.int .i64 x)) 0 1 l z _ fun j hj=>by
  have:j=0:=by omega
  subst this; rfl
theorem zAi{l:List (Int×Int×Int)}{k:Nat}(z:Int×Int×Int)(h:l.length=k):IsC (k+1) 3 (Ct.app k (.fn (cQ l)) (.lit 3 [.v (.int .i64 z.1),.v (.int .i64 z.2.1),.v (.int .i64 z.2.2)])).at (Ct.fn (cQ (l++[z]))).at:=by
 subst h
 exact xQ zIi dQ 3 l z _ fun j hj=>by
  match j,hj with
  | 0,_=>rfl
  | 1,_=>rfl
  | 2,_=>rfl
theorem qZy{l:List Nd}{k:Nat}(z:Nd)(cs:List qB)(h:l.length=k)(hc:cs=[qBo z 0,qBo z 1,qBo z 2,qBo z 3,qBo z 4,qBo z 5,qBo z 6]):IsC (k+1) 7 (Ct.app k (.fn (cN l)) (.lit 7 cs)).at (Ct.fn (cN (l++[z]))).at:=by
 subst h
 subst hc
 exact xQ qBo dN 7 l z _ fun j hj=>by
  match j,hj with
  | 0,_=>rfl
  | 1,_=>rfl
  | 2,_=>rfl
  | 3,_=>rfl
  | 4,_=>rfl
  | 5,_=>rfl
  | 6,_=>rfl
theorem qFz{l:List Bool}{n k:Nat}(x:Bool)(h:l.length=n)(hk:k<n):IsC n 1 (Ct.upd (.fn (cB l)) k 0 [.v (.bool x)]).at (Ct.fn (cB (l.set k x))).at:=by
 subst h
 exact zHw (fun(x:Bool) _=>qB.v (.bool x)) false 1 l k x _ rfl (fun j hj=>by
  have:j=0:=by omega
  subst this; rfl) hk
theorem qYo(n:Nat):IsC n 1 (Ct.zero [.bool false]).at (Ct.fn (cB (List.replicate n false))).at :=
 zCr (fun(x:Bool) _=>qB.v (.bool x)) false 1 n _ fun j hj=>by
  have:j=0:=by omega
  subst this; rfl
theorem zJn(pre l:List Nd)(x:Nd):gN (pre++x::l) pre.length=x:=by simp [gN]
def zB{α:Type}(p:α→Bool):Nat→List α→Int
 | _,[] => -1
 | k,x::r=>if p x then(k:Int) else zB p (k+1) r
theorem jC{α:Type}(p:α→Bool):∀(l:List α) (k:Nat),decide (0≤zB p k l)=l.any p
 | [],k=>by simp [zB]
 | x::r,k=>by
  rw[zB,List.any_cons]
  cases h:p x with
  | true=>simp
  | false=>simpa using jC p r (k+1)
def xZ(x:Nd):List Int:=if x.op=5∨x.op=8 then[x.a] else if x.op=6∨x.op=7 then[x.a,x.b] else[]
def okN(i:Nat)(x:Nd):Bool:=decide (1≤x.op∧x.op≤8)&&(xZ x).all fun j=>decide (0≤j∧j<(i:Int))
def zV:Nat→List Nd→Bool
 | _,[]=>true
 | i,x::r=>okN i x&&zV (i+1) r
def qQi(x:Nd):Bool:=decide (2≤x.op∧x.op≤4)
def qJe(f a i:Int)(op:Int):Int:=if op=2 then f else if op=3 then a else i
def qEa(f a i:Int)(x:Nd):Bool:=qQi x&&decide (x.a<0∨qJe f a i x.op≤x.a∨x.b < -3∨3<x.b)
def qAa(l:List Nd)(f a i:Int):Int:=if 64<l.length∨zV 0 l=false∨(l.any (qEa f a i))=true then 110 else 0
def qFu(out:List Int)(x:Nd):Int :=
 if x.op=5∨x.op=8 then out.getD x.a.toNat 0 else if x.op=6 then(if out.getD x.a.toNat 0<out.getD x.b.toNat 0 then out.getD x.b.toNat 0 else out.getD x.a.toNat 0) else if x.op=7 then out.getD x.a.toNat 0+out.getD x.b.toNat 0 else if qQi x then 1 else 0
def qAj(out:List Int)(x:Nd):Int:=if 1000<qFu out x then 1000 else qFu out x
def qCb:List Int→List Nd→List Int
 | out,[]=>out
 | out,x::r=>qCb (out++[qAj out x]) r
def qM(l:List Nd):List Int:=if zV 0 l then qCb [] l else[]
def qsN:List (Int×Int×Int)→List Nd→List (Int×Int×Int)
 | out,[]=>out
 | out,x::r=>if qQi x&&!decide ((x.op,x.a,x.b)∈out) then qsN (out++[(x.op,x.a,x.b)]) r else qsN out r
def xX(l:List Nd)(i:Nat)(w:List Bool):List Bool:=if w.getD i false then((l[i]?.map xZ).getD []).foldl (fun w j=>w.set j.toNat true) w else w
def wT(l:List Nd):Nat→List Bool→List Bool
 | 0,w=>w
 | i+1,w=>wT l i (xX l i w)
def zL(l:List Nd)(root:Int):List Int :=
 if zV 0 l=true∧0≤root∧root<(l.length:Int) then
  ((List.range (root.toNat+1)).filter fun i=>(wT l (root.toNat+1) ((List.replicate l.length false).set root.toNat true)).getD i false).map fun(i:Nat)=>(i:Int)
 else[]
theorem qCp:∀(l:List Nd) (i:Nat),zV i l=true→∀ x∈l,1≤x.op∧x.op≤8
 | [],_,_,x,hx=>by cases hx
 | y::r,i,h,x,hx=>by
  rw[zV,Bool.and_eq_true,okN,Bool.and_eq_true,decide_eq_true_iff] at h
  rcases List.mem_cons.1 hx with rfl | h1
  ·exact h.1.1
  ·exact qCp r (i+1) h.2 x h1
theorem qZg:∀(pre l:List Nd) (x:Nd) (i:Nat),zV i (pre++x::l)=true→okN (i+pre.length) x=true
 | [],l,x,i,h=>by
  rw[List.nil_append,zV,Bool.and_eq_true] at h
  simpa using h.1
 | y::r,l,x,i,h=>by
  rw[List.cons_append,zV,Bool.and_eq_true] at h
  have:=qZg r l x (i+1) h.2
  rw[List.length_cons,show i+(r.length+1)=i+1+r.length by omega]
  exact this
theorem qMq{k:Nat}{x:Nd}(h:okN k x=true):∀ j∈xZ x,0≤j∧j<(k:Int):=by
 rw[okN,Bool.and_eq_true,List.all_eq_true] at h
 exact fun j hj=>of_decide_eq_true (h.2 j hj)
theorem zBx(out:List Int){x:Nd}(h:x.op=1):qAj out x=if 1000<(0:Int) then 1000 else(0:Int):=by
 have e:qFu out x=(0:Int):=by
  unfold qFu
  rw[if_neg (by omega),if_neg (by omega),if_neg (by omega),if_neg (by rw[qQi]; simp; omega)]
 rw[qAj,e]
theorem zDg(out:List Int){x:Nd}(h:2≤x.op∧x.op≤4):qAj out x=if 1000<(1:Int) then 1000 else(1:Int):=by
 have e:qFu out x=(1:Int):=by
  unfold qFu
  rw[if_neg (by omega),if_neg (by omega),if_neg (by omega),if_pos (by rw[qQi]; exact decide_eq_true (by omega))]
 rw[qAj,e]
theorem zCy(out:List Int){x:Nd}(h:x.op=5):qAj out x=if 1000<out.getD x.a.toNat 0 then 1000 else out.getD x.a.toNat 0:=by
 have e:qFu out x=out.getD x.a.toNat 0:=by
  unfold qFu
  rw[if_pos (by omega)]
 rw[qAj,e]
theorem zDj(out:List Int){x:Nd}(h:x.op=6):qAj out x=if 1000<(if out.getD x.a.toNat 0<out.getD x.b.toNat 0 then out.getD x.b.toNat 0 else out.getD x.a.toNat 0) then 1000 else(if out.getD x.a.toNat 0<out.getD x.b.toNat 0 then out.getD x.b.toNat 0 else out.getD x.a.toNat 0):=by
 have e:qFu out x=(if out.getD x.a.toNat 0<out.getD x.b.toNat 0 then out.getD x.b.toNat 0 else out.getD x.a.toNat 0):=by
  unfold qFu
  rw[if_neg (by omega),if_pos (by omega)]
 rw[qAj,e]
theorem zDe(out:List Int){x:Nd}(h:x.op=7):qAj out x=if 1000<(out.getD x.a.toNat 0+out.getD x.b.toNat 0) then 1000 else(out.getD x.a.toNat 0+out.getD x.b.toNat 0):=by
 have e:qFu out x=(out.getD x.a.toNat 0+out.getD x.b.toNat 0):=by
  unfold qFu
  rw[if_neg (by omega),if_neg (by omega),if_pos (by omega)]
 rw[qAj,e]
theorem zDm(out:List Int){x:Nd}(h:x.op=8):qAj out x=if 1000<out.getD x.a.toNat 0 then 1000 else out.getD x.a.toNat 0:=by
 have e:qFu out x=out.getD x.a.toNat 0:=by
  unfold qFu
  rw[if_pos (by omega)]
 rw[qAj,e]
theorem wD{out:List Int}(h:∀ z∈out,0≤z∧z≤1000)(i:Nat):0≤out.getD i 0∧out.getD i 0≤1000:=by
 rw[List.getD_eq_getElem?_getD]
 cases hi:out[i]? with
 | none=>simp
 | some z=>exact h z (List.mem_of_getElem? hi)
theorem qFo{out:List Int}(h:∀ z∈out,0≤z∧z≤1000)(x:Nd):0≤qAj out x∧qAj out x≤1000:=by
 have h1:=wD h x.a.toNat
 have h2:=wD h x.b.toNat
 unfold qAj qFu
 generalize out.getD x.a.toNat 0=u at *
 generalize out.getD x.b.toNat 0=v at *
 repeat' split
 all_goals omega
theorem qHm:∀(l:List Nd) (out:List Int),(qCb out l).length=out.length+l.length
 | [],out=>by simp [qCb]
 | x::r,out=>by rw[qCb,qHm r]; simp; omega
abbrev Qy:=Int×Int×Int
def xB(a b c:Int)(x:Qy):Bool:=decide ([a,b,c]=[x.1,x.2.1,x.2.2])
theorem zBc(a b c:Int)(l:List Qy):l.any (xB a b c)=decide ((a,b,c)∈l):=by
 rw[Bool.eq_iff_iff,List.any_eq_true,decide_eq_true_iff]
 constructor
 ·rintro⟨x,hx,h⟩
  have:=of_decide_eq_true h
  simp only[List.cons.injEq,and_true] at this
  obtain⟨rfl,rfl,rfl⟩:=this
  exact hx
 ·intro h
  exact⟨(a,b,c),h,decide_eq_true rfl⟩
theorem qLu(out:List Qy)(x:Nd)(r:List Nd):qsN out (x::r)=if qQi x&&!decide ((x.op,x.a,x.b)∈out) then qsN (out++[(x.op,x.a,x.b)]) r else qsN out r:=rfl
theorem zCj(l:List Nd)(i:Nat)(w:List Bool)(hw:w.getD i false=false):xX l i w=w:=by rw[xX,hw]; rfl
theorem qNf(js:List Int):∀ w:List Bool,(js.foldl (fun w j=>w.set j.toNat true) w).length=w.length:=by
 induction js with
 | nil=>intro w; rfl
 | cons j r ih=>intro w; rw[List.foldl_cons,ih]; simp
theorem qSj(js:List Int)(i:Nat)(h:∀ j∈js,0≤j∧j<(i:Int))(k:Nat)(hk:i≤k):∀ w:List Bool,(js.foldl (fun w j=>w.set j.toNat true) w).getD k false=w.getD k false:=by
 induction js with
 | nil=>intro w; rfl
 | cons j r ih =>
  intro w
  have hj:=h j List.mem_cons_self
  rw[List.foldl_cons,ih (fun a ha=>h a (List.mem_cons_of_mem _ ha))]
  simp only[List.getD_eq_getElem?_getD]
  rw[List.getElem?_set_ne (by omega)]
theorem qPz(l:List Nd)(i:Nat)(w:List Bool):(xX l i w).length=w.length:=by
 rw[xX]; split
 ·exact qNf _ _
 ·rfl
theorem qDb{l:List Nd}(h:zV 0 l=true)(i:Nat)(x:Nd)(hx:l[i]?=some x):okN i x=true:=by
 have hlt:=(List.getElem?_eq_some_iff.1 hx).1
 have he:l=l.take i++x::l.drop (i+1):=by
  have h1:l.drop i=x::l.drop (i+1):=by
   rw[List.drop_eq_getElem_cons hlt]
   rw[(List.getElem?_eq_some_iff.1 hx).2]
  rw[← h1,List.take_append_drop]
 have:=qZg (l.take i) (l.drop (i+1)) x 0 (by rw[← he]; exact h)
 rw[List.length_take,Nat.zero_add,Nat.min_eq_left (by omega)] at this
 exact this
theorem qUg{l:List Nd}(h:zV 0 l=true)(i k:Nat)(hk:i≤k)(w:List Bool):(xX l i w).getD k false=w.getD k false:=by
 rw[xX]
 split
 ·cases hx:l[i]? with
  | none=>rfl
  | some x=>exact qSj _ i (qMq (qDb h i x hx)) k hk w
 ·rfl
theorem qPr{l:List Nd}(h:zV 0 l=true)(k:Nat):∀(i:Nat) (w:List Bool),i≤k+1→(wT l i w).getD k false=w.getD k false
 | 0,w,_=>rfl
 | i+1,w,hi=>by rw[wT,qPr h k i _ (by omega),qUg h i k (by omega)]
def qGp(l:List Nd):Nat→List Bool→List Int→List Int
 | 0,_,out=>out
 | i+1,w,out=>if w.getD i false then qGp l i (xX l i w) (out++[(i:Int)]) else qGp l i w out
theorem qRe{l:List Nd}(h:zV 0 l=true):∀(k:Nat) (w:List Bool) (out:List Int),
  qGp l k w out=out++(((List.range k).filter fun i=>(wT l k w).getD i false).map fun(i:Nat)=>(i:Int)).reverse
 | 0,w,out=>by simp [qGp]
 | k+1,w,out=>by
  have hk:(wT l k (xX l k w)).getD k false=w.getD k false:=by rw[qPr h k k _ (by omega),qUg h k k (Nat.le_refl k)]
  rw[qGp,List.range_succ,List.filter_append,List.map_append,List.reverse_append]
  simp only[wT,List.filter_cons,List.filter_nil,hk]
  cases hw:w.getD k false with
  | true =>
   rw[if_pos rfl,qRe h k (xX l k w) (out++[(k:Int)])]
   simp
  | false =>
   rw[if_neg (by simp),qRe h k w out,zCj l k w hw]
   simp
theorem zCv{l:List Nd}(h:zV 0 l=true)(root:Int)(h0:0≤root)(h1:root<(l.length:Int)):
  zL l root=(qGp l (root.toNat+1) ((List.replicate l.length false).set root.toNat true) []).reverse:=by
 rw[qRe h,zL,if_pos ⟨h,h0,h1⟩]
 simp
def usO(op a b:Int):List Int:=if op=5∨op=8 then[a] else if op=6∨op=7 then[a,b] else[]
theorem xR(x:Nd):xZ x=usO x.op x.a x.b:=rfl
theorem zPi{op:Int}(a b:Int)(h:op=5∨op=8):usO op a b=[a]:=by rw[usO,if_pos h]
theorem zLg{op:Int}(a b:Int)(h:op=6∨op=7):usO op a b=[a,b]:=by rw[usO,if_neg (by omega),if_pos h]
theorem zKp{op:Int}(a b:Int)(h:¬ (5≤op∧op≤8)):usO op a b=[]:=by rw[usO,if_neg (by omega),if_neg (by omega)]
def qNo(w:List Bool):Nat→Nat→List Int→List Int
 | 0,_,out=>out
 | d+1,i,out=>qNo w d (i+1) (if w.getD i false then out++[(i:Int)] else out)
theorem qZz(w:List Bool):∀(d i:Nat) (out:List Int),qNo w d i out=out++((List.range' i d).filter fun i=>w.getD i false).map fun(i:Nat)=>(i:Int)
 | 0,i,out=>by simp [qNo]
 | d+1,i,out=>by
  rw[qNo,qZz w d (i+1),List.range'_succ,List.filter_cons]
  cases w.getD i false with
  | true=>simp
  | false=>simp
theorem zBo{l:List Nd}(h:zV 0 l=true)(k:Nat)(h1:k<l.length):
  zL l (k:Int)=qNo (wT l (k+1) ((List.replicate l.length false).set k true)) (k+1) 0 []:=by
 rw[qZz,zL,if_pos ⟨h,by omega,by omega⟩]
 simp only[Int.toNat_natCast,List.nil_append,List.range_eq_range']
theorem zDu(w:List Bool)(k j:Nat)(h:w.getD k false=true):(w.set j true).getD k false=true:=by
 have hk:k<w.length:=by
  apply Classical.byContradiction
  intro hh
  rw[List.getD_eq_getElem?_getD,List.getElem?_eq_none (by omega)] at h
  cases h
 rw[List.getD_eq_getElem?_getD] at h ⊢
 by_cases e:j=k
 ·rw[e,List.getElem?_set_self hk]; rfl
 ·rw[List.getElem?_set_ne e]; exact h
end Go.Pl
/- The seat's own facts for the runner. -/
namespace Go.Proofs.YtlmjdcbhpffanaaGreat
open Go.Sx Go.Pl Go.RowKit

noncomputable def zNc(f:FuncId)(vs:List Value):Option (Value×Prop) :=
 match vs with
 | [.int .u64 x,.int .u64 y,.int .u64 c] =>
  bif Nat.beq f 145 then some (.tuple #[.int .u64 ((zQu x.toNat y.toNat c.toNat:Nat):Int),.int .u64 ((zSp x.toNat y.toNat c.toNat:Nat):Int)],0≤x∧0≤y∧0≤c∧c.toNat≤1)
  else bif Nat.beq f 150 then some (.tuple #[.int .u64 ((zSj x.toNat y.toNat c.toNat:Nat):Int),.int .u64 ((zQi x.toNat y.toNat c.toNat:Nat):Int)],0≤x∧0≤y∧0≤c∧c.toNat≤1)
  else none
 | _=>none
theorem zTy:Extern.find Tryz.f145=some add64Entry:=by kernel_rfl
theorem zVd:Extern.find Tryz.f150=some sub64Entry:=by kernel_rfl
theorem zJi(f:FuncId)(vs:List Value)(v:Value)(p:Prop)(w:World)(h:zNc f vs=some (v,p))(hp:p):(callFunc f vs.toArray).run Tryz.prog w=.ok (.value v) w:=by
 unfold zNc at h
 split at h
 ·rename_i x y c
  cases h1:Nat.beq f 145 with
  | true =>
   simp only[h1,cond_true,sI,pI] at h
   obtain⟨rfl,rfl⟩:=h
   obtain⟨hx,hy,hc,hc1⟩:=hp
   have:=Nat.eq_of_beq_eq_true h1
   subst this
   obtain⟨x,rfl⟩:=Int.eq_ofNat_of_zero_le hx
   obtain⟨y,rfl⟩:=Int.eq_ofNat_of_zero_le hy
   obtain⟨c,rfl⟩:=Int.eq_ofNat_of_zero_le hc
   simp only[Int.toNat_natCast,zGl,zFp] at hc1 ⊢
   rw[run_callFunc_extern Tryz.func145 (by kernel_rfl) (by kernel_rfl) (by kernel_rfl) zTy,run_add64 (x:Int) y c (by omega) (by omega) (by omega) (by omega)]
   simp only[Result.andThen]
   congr 5 <;> omega
  | false =>
   cases h2:Nat.beq f 150 with
   | true =>
    simp only[h1,h2,cond_true,cond_false,sI,pI] at h
    obtain⟨rfl,rfl⟩:=h
    obtain⟨hx,hy,hc,hc1⟩:=hp
    have:=Nat.eq_of_beq_eq_true h2
    subst this
    obtain⟨x,rfl⟩:=Int.eq_ofNat_of_zero_le hx
    obtain⟨y,rfl⟩:=Int.eq_ofNat_of_zero_le hy
    obtain⟨c,rfl⟩:=Int.eq_ofNat_of_zero_le hc
    simp only[Int.toNat_natCast,zHz,zGk] at hc1 ⊢
    rw[run_callFunc_extern Tryz.func150 (by kernel_rfl) (by kernel_rfl) (by kernel_rfl) zVd,run_sub64 x y c hc1]
    rfl
   | false=>simp only[h1,h2,cond_false] at h; cases h
 ·cases h
theorem EqT.le{P:Program}{d d':Nat}{t:TypeId}{ag:Bool}{ks:List IntKind}(h:EqT P d t ag ks)(hd:d≤d'):EqT P d' t ag ks where
 agg:=h.agg
 size:=h.size
 one:=h.one
 chk:=fun b D xs w hD hx=>h.chk b D xs w (Nat.le_trans hd hD) hx
 eq:=fun D xs ys w hD hx hy=>h.eq D xs ys w (Nat.le_trans hd hD) hx hy
theorem eqI:EqT Tryz.prog 1 3 false [.i64]:=EqT.int (by kernel_rfl:Tryz.prog.underlying 3=some (.int .i64)) (by kernel_rfl)
theorem eqE:EqT Tryz.prog 2 53 true [.u64,.u64,.u64,.u64] :=
 EqT.array (len:=4) (EqT.int (by kernel_rfl:Tryz.prog.underlying 51=some (.int .u64)) (by kernel_rfl)) (by kernel_rfl) (by kernel_rfl)
theorem zMx:(Tryz.prog.fieldsOf 109).toList=[⟨"Op",3,0,false, "", "",0⟩,⟨"A",3,1,false, "", "",8⟩,⟨"B",3,2,false, "", "",16⟩,⟨"V",53,3,false, "", "",24⟩]:=by kernel_rfl
theorem zZc:EqT Tryz.prog 3 109 true [.i64,.i64,.i64,.u64,.u64,.u64,.u64] :=
 EqT.struct (by rw[zMx]; show qHs Tryz.prog 2 0 _ ([.i64]++([.i64]++([.i64]++([.u64,.u64,.u64,.u64]++[])))); exact .cons (EqT.le eqI (by omega)) rfl (by decide) (.cons (EqT.le eqI (by omega)) rfl (by decide) (.cons (EqT.le eqI (by omega)) rfl (by decide) (.cons eqE rfl (by decide) (.nil _))))) (by kernel_rfl) (by kernel_rfl) (by kernel_rfl)
theorem zNm:(Tryz.prog.fieldsOf 156).toList=[⟨"Kind",3,0,false, "", "",0⟩,⟨"Col",3,1,false, "", "",8⟩,⟨"Rot",3,2,false, "", "",16⟩]:=by kernel_rfl
theorem zTx:EqT Tryz.prog 2 156 true [.i64,.i64,.i64] :=
 EqT.struct (by rw[zNm]; show qHs Tryz.prog 1 0 _ ([.i64]++([.i64]++([.i64]++[]))); exact .cons eqI rfl (by decide) (.cons eqI rfl (by decide) (.cons eqI rfl (by decide) (.nil _)))) (by kernel_rfl) (by kernel_rfl) (by kernel_rfl)
theorem zJy:(Tryz.prog.fieldsOf 107).toList=[⟨"Kind",3,0,false, "", "",0⟩,⟨"Col",3,1,false, "", "",8⟩]:=by kernel_rfl
theorem zSo:EqT Tryz.prog 2 107 true [.i64,.i64] :=
 EqT.struct (by rw[zJy]; show qHs Tryz.prog 1 0 _ ([.i64]++([.i64]++[])); exact .cons eqI rfl (by decide) (.cons eqI rfl (by decide) (.nil _))) (by kernel_rfl) (by kernel_rfl) (by kernel_rfl)
theorem zKg:(Tryz.prog.fieldsOf 111).toList=[⟨"Kind",3,0,false, "", "",0⟩,⟨"Index",3,1,false, "", "",8⟩,⟨"Row",3,2,false, "", "",16⟩]:=by kernel_rfl
theorem zVv:EqT Tryz.prog 2 111 true [.i64,.i64,.i64] :=
 EqT.struct (by rw[zKg]; show qHs Tryz.prog 1 0 _ ([.i64]++([.i64]++([.i64]++[]))); exact .cons eqI rfl (by decide) (.cons eqI rfl (by decide) (.cons eqI rfl (by decide) (.nil _)))) (by kernel_rfl) (by kernel_rfl) (by kernel_rfl)
theorem zKn:(Tryz.prog.fieldsOf 98).toList=[⟨"Col",3,0,false, "", "",0⟩,⟨"Row",3,1,false, "", "",8⟩]:=by kernel_rfl
theorem zTt:EqT Tryz.prog 2 98 true [.i64,.i64] :=
 EqT.struct (by rw[zKn]; show qHs Tryz.prog 1 0 _ ([.i64]++([.i64]++[])); exact .cons eqI rfl (by decide) (.cons eqI rfl (by decide) (.nil _))) (by kernel_rfl) (by kernel_rfl) (by kernel_rfl)
theorem zKd:(Tryz.prog.fieldsOf 101).toList=[⟨"A",98,0,false, "", "",0⟩,⟨"B",98,2,false, "", "",16⟩]:=by kernel_rfl
theorem zWm:EqT Tryz.prog 3 101 true [.i64,.i64,.i64,.i64] :=
 EqT.struct (by rw[zKd]; show qHs Tryz.prog 2 0 _ ([.i64,.i64]++([.i64,.i64]++[])); exact .cons zTt rfl (by decide) (.cons zTt rfl (by decide) (.nil _))) (by kernel_rfl) (by kernel_rfl) (by kernel_rfl)
theorem zOs:(Tryz.prog.fieldsOf 55).toList=[⟨"Kind",3,0,false, "", "",0⟩,⟨"Col",3,1,false, "", "",8⟩,⟨"Off",3,2,false, "", "",16⟩,⟨"V",53,3,false, "", "",24⟩]:=by kernel_rfl
theorem zQc:EqT Tryz.prog 3 55 true [.i64,.i64,.i64,.u64,.u64,.u64,.u64] :=
 EqT.struct (by rw[zOs]; show qHs Tryz.prog 2 0 _ ([.i64]++([.i64]++([.i64]++([.u64,.u64,.u64,.u64]++[])))); exact .cons (EqT.le eqI (by omega)) rfl (by decide) (.cons (EqT.le eqI (by omega)) rfl (by decide) (.cons (EqT.le eqI (by omega)) rfl (by decide) (.cons eqE rfl (by decide) (.nil _))))) (by kernel_rfl) (by kernel_rfl) (by kernel_rfl)
theorem zUq:EqT Tryz.prog 3 162 true [.u64,.u64,.u64,.u64,.u64,.u64,.u64,.u64,.u64,.u64,.u64,.u64,.u64,.u64,.u64,.u64] :=
 EqT.array (len:=4) eqE (by kernel_rfl) (by kernel_rfl)
noncomputable def X:Ext Tryz.prog where
 ext:=zNc
 extOk:=zJi
 eq:=fun t=>bif Nat.beq t 53 then some [.u64,.u64,.u64,.u64] else bif Nat.beq t 109 then some [.i64,.i64,.i64,.u64,.u64,.u64,.u64] else bif Nat.beq t 156 then some [.i64,.i64,.i64] else bif Nat.beq t 107 then some [.i64,.i64] else bif Nat.beq t 111 then some [.i64,.i64,.i64] else bif Nat.beq t 101 then some [.i64,.i64,.i64,.i64] else bif Nat.beq t 55 then some [.i64,.i64,.i64,.u64,.u64,.u64,.u64] else none
 eqOk:=by
  intro t ks xs ys x y w h hx hy
  cases h1:Nat.beq t 53 with
  | true =>
   simp only[h1,cond_true,sI] at h
   subst h
   have:=Nat.eq_of_beq_eq_true h1
   subst this
   exact eqE.ok (by omega) (by kernel_rfl) xs ys x y w hx hy
  | false =>
  cases h2:Nat.beq t 109 with
  | true =>
   simp only[h1,h2,cond_true,cond_false,sI] at h
   subst h
   have:=Nat.eq_of_beq_eq_true h2
   subst this
   exact zZc.ok (by omega) (by kernel_rfl) xs ys x y w hx hy
  | false =>
  cases h3:Nat.beq t 156 with
  | true =>
   simp only[h1,h2,h3,cond_true,cond_false,sI] at h
   subst h
   have:=Nat.eq_of_beq_eq_true h3
   subst this
   exact zTx.ok (by omega) (by kernel_rfl) xs ys x y w hx hy
  | false =>
  cases h4:Nat.beq t 107 with
  | true =>
   simp only[h1,h2,h3,h4,cond_true,cond_false,sI] at h
   subst h
   have:=Nat.eq_of_beq_eq_true h4
   subst this
   exact zSo.ok (by omega) (by kernel_rfl) xs ys x y w hx hy
  | false =>
  cases h5:Nat.beq t 111 with
  | true =>
   simp only[h1,h2,h3,h4,h5,cond_true,cond_false,sI] at h
   subst h
   have:=Nat.eq_of_beq_eq_true h5
   subst this
   exact zVv.ok (by omega) (by kernel_rfl) xs ys x y w hx hy
  | false =>
  cases h6:Nat.beq t 101 with
  | true =>
   simp only[h1,h2,h3,h4,h5,h6,cond_true,cond_false,sI] at h
   subst h
   have:=Nat.eq_of_beq_eq_true h6
   subst this
   exact zWm.ok (by omega) (by kernel_rfl) xs ys x y w hx hy
  | false =>
  cases h7:Nat.beq t 55 with
  | true =>
   simp only[h1,h2,h3,h4,h5,h6,h7,cond_true,cond_false,sI] at h
   subst h
   have:=Nat.eq_of_beq_eq_true h7
   subst this
   exact zQc.ok (by omega) (by kernel_rfl) xs ys x y w hx hy
  | false =>
  simp only[h1,h2,h3,h4,h5,h6,h7,cond_false] at h; cases h
 key:=fun t=>bif Nat.beq t 3 then some (false,[.i64]) else bif Nat.beq t 107 then some (true,[.i64,.i64]) else bif Nat.beq t 55 then some (true,[.i64,.i64,.i64,.u64,.u64,.u64,.u64]) else bif Nat.beq t 162 then some (true,[.u64,.u64,.u64,.u64,.u64,.u64,.u64,.u64,.u64,.u64,.u64,.u64,.u64,.u64,.u64,.u64]) else none
 keyOk:=by
  intro t ag ks h
  cases h1:Nat.beq t 3 with
  | true =>
   simp only[h1,cond_true,sI,pI] at h
   obtain⟨rfl,rfl⟩:=h
   have:=Nat.eq_of_beq_eq_true h1
   subst this
   exact qJm.int (by kernel_rfl) (by kernel_rfl)
  | false =>
  cases h2:Nat.beq t 107 with
  | true =>
   simp only[h1,h2,cond_true,cond_false,sI,pI] at h
   obtain⟨rfl,rfl⟩:=h
   have:=Nat.eq_of_beq_eq_true h2
   subst this
   exact zSo.keyA (by omega)
  | false =>
  cases h3:Nat.beq t 55 with
  | true =>
   simp only[h1,h2,h3,cond_true,cond_false,sI,pI] at h
   obtain⟨rfl,rfl⟩:=h
   have:=Nat.eq_of_beq_eq_true h3
   subst this
   exact zQc.keyA (by omega)
  | false =>
  cases h4:Nat.beq t 162 with
  | true =>
   simp only[h1,h2,h3,h4,cond_true,cond_false,sI,pI] at h
   obtain⟨rfl,rfl⟩:=h
   have:=Nat.eq_of_beq_eq_true h4
   subst this
   exact zUq.keyA (by omega)
  | false =>
  simp only[h1,h2,h3,h4,cond_false] at h; cases h
theorem hm:Tryz.prog.follows .mixedOrders=true:=by kernel_rfl
end Go.Proofs.YtlmjdcbhpffanaaGreat
/- The document's side: are nodes ordered? -/
namespace Go.Pl
open Go.Sx
theorem qEm(k:Nat)(x:Nd):okN k x=true↔(1≤x.op∧x.op≤8)∧(x.op=5∨x.op=8→0≤x.a∧x.a<(k:Int))∧(x.op=6∨x.op=7→(0≤x.a∧x.a<(k:Int))∧0≤x.b∧x.b<(k:Int)):=by
 rw[okN,Bool.and_eq_true,decide_eq_true_eq,xZ]
 split
 ·simp only[List.all_cons,List.all_nil,Bool.and_true,decide_eq_true_eq]; omega
 ·split
  ·simp only[List.all_cons,List.all_nil,Bool.and_true,Bool.and_eq_true,decide_eq_true_eq]; omega
  ·exact⟨fun h=>⟨h.1,by omega,by omega⟩,fun h=>⟨h.1,rfl⟩⟩
end Go.Pl
namespace Go.Proofs.YtlmjdcbhpffanaaGreat
open Go.Sx Go.Pl
set_option linter.unusedVariables false
set_option maxRecDepth 100000
theorem zSq(b:Bool)(l:List Nd)(n i M:Nat)(K:List It→St→Prop)(R:SV→List HO→Prop):W (xwp Tryz.prog X (Con.none _) [(136,[])] 60 (qO Tryz.f113 [([0,1,1,1,0,0,1,0,0,1,0,1],3)] [⟨[0,1,0,1],[3,2,0],[]⟩]) [] (.at [0,0,1,0,1]::.rnd [0,0,1,0,1] M::[.blk 0,.at [1,1]]) ⟨[(3,.v (.int .i64 (i:Int))),(2,.v (.bool false)),(0,.x 0 [])],[.ext b (.s false 7 n (cN l))]⟩ K R)=W (bif decide ((↑i:Int)<(↑n:Int)) then(∀ M:Mem,(0:Int)≤(↑i:Int)∧(↑i:Int)<(↑n:Int))∧(∀ M:Mem,i<n)∧(∀ M:Mem,i<n)∧bif decide ((gN l i).1<(1:Int)) then R (.v (.bool false)) [] else(∀ M:Mem,(0:Int)≤(↑i:Int)∧(↑i:Int)<(↑n:Int))∧(∀ M:Mem,i<n)∧(∀ M:Mem,i<n)∧bif decide ((8:Int)<(gN l i).1) then R (.v (.bool false)) [] else(∀ M:Mem,(0:Int)≤(↑i:Int)∧(↑i:Int)<(↑n:Int))∧(∀ M:Mem,i<n)∧bif(gN l i).1==(5:Int) then(∀ M:Mem,(0:Int)≤(0:Int)∧(0:Int)<(1:Int))∧(∀ M:Mem,0<1)∧bif decide ((gN l i).2<(0:Int)) then R (.v (.bool false)) [] else(∀ M:Mem,(0:Int)≤(0:Int)∧(0:Int)<(1:Int))∧(∀ M:Mem,0<1)∧bif decide ((↑i:Int)≤(gN l i).2) then R (.v (.bool false)) [] else K [.rnd [0,0,1,0,1] M,.blk 0,.at [1,1]] (St.mk [(3,.v (qA (IntKind.wrap .i64 ((↑i:Int)+(1:Int))))),(2,.v (.bool false)),(0,.x 0 [])] [.ext b (.s false 7 n (cN l))]) else bif(gN l i).1==(8:Int) then(∀ M:Mem,(0:Int)≤(0:Int)∧(0:Int)<(1:Int))∧(∀ M:Mem,0<1)∧bif decide ((gN l i).2<(0:Int)) then R (.v (.bool false)) [] else(∀ M:Mem,(0:Int)≤(0:Int)∧(0:Int)<(1:Int))∧(∀ M:Mem,0<1)∧bif decide ((↑i:Int)≤(gN l i).2) then R (.v (.bool false)) [] else K [.rnd [0,0,1,0,1] M,.blk 0,.at [1,1]] (St.mk [(3,.v (qA (IntKind.wrap .i64 ((↑i:Int)+(1:Int))))),(2,.v (.bool false)),(0,.x 0 [])] [.ext b (.s false 7 n (cN l))]) else bif(gN l i).1==(6:Int) then(∀ M:Mem,(0:Int)≤(0:Int)∧(0:Int)<(2:Int))∧(∀ M:Mem,0<2)∧bif decide ((gN l i).2<(0:Int)) then R (.v (.bool false)) [] else(∀ M:Mem,(0:Int)≤(0:Int)∧(0:Int)<(2:Int))∧(∀ M:Mem,0<2)∧bif decide ((↑i:Int)≤(gN l i).2) then R (.v (.bool false)) [] else(∀ M:Mem,(0:Int)≤(1:Int)∧(1:Int)<(2:Int))∧(∀ M:Mem,1<2)∧bif decide ((gN l i).3<(0:Int)) then R (.v (.bool false)) [] else(∀ M:Mem,(0:Int)≤(1:Int)∧(1:Int)<(2:Int))∧(∀ M:Mem,1<2)∧bif decide ((↑i:Int)≤(gN l i).3) then R (.v (.bool false)) [] else K [.rnd [0,0,1,0,1] M,.blk 0,.at [1,1]] (St.mk [(3,.v (qA (IntKind.wrap .i64 ((↑i:Int)+(1:Int))))),(2,.v (.bool false)),(0,.x 0 [])] [.ext b (.s false 7 n (cN l))]) else bif(gN l i).1==(7:Int) then(∀ M:Mem,(0:Int)≤(0:Int)∧(0:Int)<(2:Int))∧(∀ M:Mem,0<2)∧bif decide ((gN l i).2<(0:Int)) then R (.v (.bool false)) [] else(∀ M:Mem,(0:Int)≤(0:Int)∧(0:Int)<(2:Int))∧(∀ M:Mem,0<2)∧bif decide ((↑i:Int)≤(gN l i).2) then R (.v (.bool false)) [] else(∀ M:Mem,(0:Int)≤(1:Int)∧(1:Int)<(2:Int))∧(∀ M:Mem,1<2)∧bif decide ((gN l i).3<(0:Int)) then R (.v (.bool false)) [] else(∀ M:Mem,(0:Int)≤(1:Int)∧(1:Int)<(2:Int))∧(∀ M:Mem,1<2)∧bif decide ((↑i:Int)≤(gN l i).3) then R (.v (.bool false)) [] else K [.rnd [0,0,1,0,1] M,.blk 0,.at [1,1]] (St.mk [(3,.v (qA (IntKind.wrap .i64 ((↑i:Int)+(1:Int))))),(2,.v (.bool false)),(0,.x 0 [])] [.ext b (.s false 7 n (cN l))]) else K [.rnd [0,0,1,0,1] M,.blk 0,.at [1,1]] (St.mk [(3,.v (qA (IntKind.wrap .i64 ((↑i:Int)+(1:Int))))),(2,.v (.bool false)),(0,.x 0 [])] [.ext b (.s false 7 n (cN l))]) else R (.v (.bool true)) []):=by kernel_rfl
theorem zYj(b:Bool)(l:List Nd)(n:Nat)(K:List It→St→Prop)(R:SV→List HO→Prop):W (xwp Tryz.prog X (Con.none _) [(136,[])] 60 (qO Tryz.f113 [([0,1,1,1,0,0,1,0,0,1,0,1],3)] [⟨[0,1,0,1],[3,2,0],[]⟩]) [] [.at []] ⟨qQ 0 [.x 0 []],[.ext b (.s false 7 n (cN l))]⟩ K R)=W (K [.at [0,1,0,1],.blk 0,.at [1,1]] (St.mk [(3,.v (qA 0)),(2,.v (.bool false)),(0,.x 0 [])] [.ext b (.s false 7 n (cN l))])):=by kernel_rfl
theorem qUh(b:Bool)(all:List Nd)(hb:all.length≤4611686018427387903)(Q:SV→List HO→Prop)(hq:Q (.v (.bool (zV 0 all))) []):∀(l pre:List Nd),all=pre++l→zV 0 all=zV pre.length l →
  FOk Tryz.prog Tryz.f113 Q (.rnd [0,0,1,0,1] (l.length+1)::[.blk 0,.at [1,1]]) ⟨[(3,.v (.int .i64 (pre.length:Int))),(2,.v (.bool false)),(0,.x 0 [])],[.ext b (.s false 7 all.length (cN all))]⟩
 | [],pre,he,ho=>by
  have hl:pre.length=all.length:=by rw[he]; simp
  refine FOk.rnd (qC hm 60 ((zSq b all all.length pre.length 0 _ _).mpr ⟨?_⟩))
  simp only[qD]
  rw[if_neg (by omega)]
  rw[ho] at hq
  exact hq
 | x::l,pre,he,ho=>by
  have hl:pre.length+(l.length+1)=all.length:=by rw[he]; simp
  have hx:gN all pre.length=x:=by rw[he,zJn]
  have hlen:(pre++[x]).length=pre.length+1:=by simp
  have next:=qUh b all hb Q hq l (pre++[x]) (by rw[he]; simp)
  rw[hlen] at next
  rw[zV] at ho
  have hno:okN pre.length x=false→Q (.v (.bool false)) []:=fun h=>by rw[ho,h] at hq; exact hq
  have hyes:okN pre.length x=true→FOk Tryz.prog Tryz.f113 Q (.rnd [0,0,1,0,1] (l.length+1)::[.blk 0,.at [1,1]]) ⟨[(3,.v (.int .i64 (IntKind.wrap .i64 ((pre.length:Int)+1)))),(2,.v (.bool false)),(0,.x 0 [])],[.ext b (.s false 7 all.length (cN all))]⟩:=fun h=>by
   rw[qK _ (by omega)]
   exact next (by rw[ho,h]; rfl)
  refine FOk.rnd (qC hm 60 ((zSq b all all.length pre.length (l.length+1) _ _).mpr ⟨?_⟩))
  simp only[qD,zC,forall_const,hx]
  repeat' (first | refine And.intro ?_ ?_ | refine qG (fun _=>?_) (fun _=>?_))
  all_goals first
   | omega
   | exact hno (by rw[Bool.eq_false_iff,ne_eq,qEm]; omega)
   | exact hyes ((qEm _ _).2 (by omega))
theorem zWt:Tryz.f113.body.isSome=true:=by kernel_rfl
theorem zYx:Nat.ble [SV.x 0 []].length Tryz.f113.ntmps=true:=by kernel_rfl
theorem qWl(b:Bool)(all:List Nd)(hb:all.length≤4611686018427387903):qI Tryz.prog 113 [.x 0 []] [.ext b (.s false 7 all.length (cN all))] (fun r h=>r=.v (.bool (zV 0 all))∧h=[]):=by
 refine qL Tryz.func113 zWt ?_ ?_
 ·exact zYx
 refine qC hm 60 ((zYj b all all.length _ _).mpr ⟨?_⟩)
 exact FOk.loop (all.length+1) (by kernel_rfl) (qUh b all hb _ ⟨rfl,rfl⟩ all [] rfl rfl)
end Go.Proofs.YtlmjdcbhpffanaaGreat
/- The steps of nodes. -/
namespace Go.Pl
open Go.Sx
noncomputable def stV(x:Nd):Value :=
 if x.op=1 then .iface 200 (.agg #[.int .u64 (qF x.v 0:Nat),.int .u64 (qF x.v 1:Nat),.int .u64 (qF x.v 2:Nat),.int .u64 (qF x.v 3:Nat)])
 else if x.op=5 then .iface 216 (.agg #[.int .i64 x.a])
 else if x.op=6 then .iface 218 (.agg #[.int .i64 x.a,.int .i64 x.b])
 else if x.op=7 then .iface 219 (.agg #[.int .i64 x.a,.int .i64 x.b])
 else if x.op=8 then .iface 221 (.agg #[.int .i64 x.a,.int .u64 (qF x.v 0:Nat),.int .u64 (qF x.v 1:Nat),.int .u64 (qF x.v 2:Nat),.int .u64 (qF x.v 3:Nat)])
 else .iface 193 (.agg #[.int .i64 x.op,.int .i64 x.a,.int .i64 x.b])
noncomputable def cS(l:List Nd):Nat→Nat→qB:=fun k _=>.v (stV (gN l k))
theorem zAg{x:Nd}(h:x.op=1):stV x=.iface 200 (.agg #[.int .u64 (qF x.v 0:Nat),.int .u64 (qF x.v 1:Nat),.int .u64 (qF x.v 2:Nat),.int .u64 (qF x.v 3:Nat)]):=by unfold stV; rw[if_pos h]
theorem zAe{x:Nd}(h:x.op=5):stV x=.iface 216 (.agg #[.int .i64 x.a]):=by unfold stV; rw[if_neg (by omega),if_pos h]
theorem qYk{x:Nd}(h:x.op=6):stV x=.iface 218 (.agg #[.int .i64 x.a,.int .i64 x.b]):=by unfold stV; rw[if_neg (by omega),if_neg (by omega),if_pos h]
theorem zAa{x:Nd}(h:x.op=7):stV x=.iface 219 (.agg #[.int .i64 x.a,.int .i64 x.b]):=by unfold stV; rw[if_neg (by omega),if_neg (by omega),if_neg (by omega),if_pos h]
theorem qYx{x:Nd}(h:x.op=8):stV x=.iface 221 (.agg #[.int .i64 x.a,.int .u64 (qF x.v 0:Nat),.int .u64 (qF x.v 1:Nat),.int .u64 (qF x.v 2:Nat),.int .u64 (qF x.v 3:Nat)]):=by unfold stV; rw[if_neg (by omega),if_neg (by omega),if_neg (by omega),if_neg (by omega),if_pos h]
theorem qPa{x:Nd}(h:2≤x.op∧x.op≤4):stV x=.iface 193 (.agg #[.int .i64 x.op,.int .i64 x.a,.int .i64 x.b]):=by unfold stV; rw[if_neg (by omega),if_neg (by omega),if_neg (by omega),if_neg (by omega),if_neg (by omega)]
end Go.Pl
namespace Go.Proofs.YtlmjdcbhpffanaaGreat
open Go.Sx Go.Pl
set_option linter.unusedVariables false
set_option maxRecDepth 100000
theorem stR(b:Bool)(l:List Nd)(c:Ct)(n k M:Nat)(K:List It→St→Prop)(R:SV→List HO→Prop):W (xwp Tryz.prog X (Con.none _) [(118,[]),(101,[]),(129,[([0,1,0,1],3)]),(137,[]),(172,[]),(176,[]),(179,[]),(187,[])] 60 (qO Tryz.f120 [] [⟨[0,1,0,1,1],[13,12,11,4],[(4,190,1)]⟩]) [] (.at [0,0,1,0,1,1]::.rnd [0,0,1,0,1,1] M::[.blk 0,.at [1,1,1]]) ⟨[(13,.v (.int .i64 (k:Int))),(12,.v (.int .i64 (n:Int))),(11,.x 0 []),(4,.o 1)],[.ext b (.s false 7 n (cN l)),.rowc 190 1 k c]⟩ K R)=W (bif decide ((↑k:Int)<(↑n:Int)) then(∀ M:Mem,(0:Int)≤(↑k:Int)∧(↑k:Int)<(↑n:Int))∧(∀ M:Mem,k<n)∧(∀ M:Mem,0+1≤1)∧(∀ M:Mem,0+7≤7)∧bif(gN l k).1==(1:Int) then(∀ M:Mem,(k+1)*16≤140737488355328∧k+1≤140737488355328)∧K [.rnd [0,0,1,0,1,1] M,.blk 0,.at [1,1,1]] (St.mk [(13,.v (qA (IntKind.wrap .i64 ((↑k:Int)+(1:Int))))),(12,.v (qA (↑n:Int))),(11,.x 0 []),(4,.o 1)] [.ext b (.s false 7 n (cN l)),.rowc 190 1 (k+1) (.app k c (.lit 1 [.v (Value.iface 200 (Value.agg (Array.mk [qE (↑(qF (gN l k).4 0):Int),qE (↑(qF (gN l k).4 1):Int),qE (↑(qF (gN l k).4 2):Int),qE (↑(qF (gN l k).4 3):Int)])))]))]) else bif(gN l k).1==(2:Int) then(∀ M:Mem,(k+1)*16≤140737488355328∧k+1≤140737488355328)∧K [.rnd [0,0,1,0,1,1] M,.blk 0,.at [1,1,1]] (St.mk [(13,.v (qA (IntKind.wrap .i64 ((↑k:Int)+(1:Int))))),(12,.v (qA (↑n:Int))),(11,.x 0 []),(4,.o 1)] [.ext b (.s false 7 n (cN l)),.rowc 190 1 (k+1) (.app k c (.lit 1 [.v (Value.iface 193 (Value.agg (Array.mk [qA (gN l k).1,qA (gN l k).2,qA (gN l k).3])))]))]) else bif(gN l k).1==(3:Int) then(∀ M:Mem,(k+1)*16≤140737488355328∧k+1≤140737488355328)∧K [.rnd [0,0,1,0,1,1] M,.blk 0,.at [1,1,1]] (St.mk [(13,.v (qA (IntKind.wrap .i64 ((↑k:Int)+(1:Int))))),(12,.v (qA (↑n:Int))),(11,.x 0 []),(4,.o 1)] [.ext b (.s false 7 n (cN l)),.rowc 190 1 (k+1) (.app k c (.lit 1 [.v (Value.iface 193 (Value.agg (Array.mk [qA (gN l k).1,qA (gN l k).2,qA (gN l k).3])))]))]) else bif(gN l k).1==(4:Int) then(∀ M:Mem,(k+1)*16≤140737488355328∧k+1≤140737488355328)∧K [.rnd [0,0,1,0,1,1] M,.blk 0,.at [1,1,1]] (St.mk [(13,.v (qA (IntKind.wrap .i64 ((↑k:Int)+(1:Int))))),(12,.v (qA (↑n:Int))),(11,.x 0 []),(4,.o 1)] [.ext b (.s false 7 n (cN l)),.rowc 190 1 (k+1) (.app k c (.lit 1 [.v (Value.iface 193 (Value.agg (Array.mk [qA (gN l k).1,qA (gN l k).2,qA (gN l k).3])))]))]) else bif(gN l k).1==(5:Int) then(∀ M:Mem,(0:Int)≤(0:Int)∧(0:Int)<(1:Int))∧(∀ M:Mem,0<1)∧bif decide ((gN l k).2<(0:Int)) then R (.tup [.v (Value.slice none 0 0),.v (.bool false)]) [] else(∀ M:Mem,0<1)∧bif decide ((↑k:Int)≤(gN l k).2) then R (.tup [.v (Value.slice none 0 0),.v (.bool false)]) [] else(∀ M:Mem,(k+1)*16≤140737488355328∧k+1≤140737488355328)∧K [.rnd [0,0,1,0,1,1] M,.blk 0,.at [1,1,1]] (St.mk [(13,.v (qA (IntKind.wrap .i64 ((↑k:Int)+(1:Int))))),(12,.v (qA (↑n:Int))),(11,.x 0 []),(4,.o 1)] [.ext b (.s false 7 n (cN l)),.rowc 190 1 (k+1) (.app k c (.lit 1 [.v (Value.iface 216 (Value.agg (Array.mk [qA (gN l k).2])))]))]) else bif(gN l k).1==(6:Int) then(∀ M:Mem,(0:Int)≤(0:Int)∧(0:Int)<(2:Int))∧(∀ M:Mem,0<2)∧bif decide ((gN l k).2<(0:Int)) then R (.tup [.v (Value.slice none 0 0),.v (.bool false)]) [] else(∀ M:Mem,0<1)∧bif decide ((↑k:Int)≤(gN l k).2) then R (.tup [.v (Value.slice none 0 0),.v (.bool false)]) [] else(∀ M:Mem,(0:Int)≤(1:Int)∧(1:Int)<(2:Int))∧(∀ M:Mem,1<2)∧bif decide ((gN l k).3<(0:Int)) then R (.tup [.v (Value.slice none 0 0),.v (.bool false)]) [] else(∀ M:Mem,0<1)∧bif decide ((↑k:Int)≤(gN l k).3) then R (.tup [.v (Value.slice none 0 0),.v (.bool false)]) [] else(∀ M:Mem,(k+1)*16≤140737488355328∧k+1≤140737488355328)∧K [.rnd [0,0,1,0,1,1] M,.blk 0,.at [1,1,1]] (St.mk [(13,.v (qA (IntKind.wrap .i64 ((↑k:Int)+(1:Int))))),(12,.v (qA (↑n:Int))),(11,.x 0 []),(4,.o 1)] [.ext b (.s false 7 n (cN l)),.rowc 190 1 (k+1) (.app k c (.lit 1 [.v (Value.iface 218 (Value.agg (Array.mk [qA (gN l k).2,qA (gN l k).3])))]))]) else bif(gN l k).1==(7:Int) then(∀ M:Mem,(0:Int)≤(0:Int)∧(0:Int)<(2:Int))∧(∀ M:Mem,0<2)∧bif decide ((gN l k).2<(0:Int)) then R (.tup [.v (Value.slice none 0 0),.v (.bool false)]) [] else(∀ M:Mem,0<1)∧bif decide ((↑k:Int)≤(gN l k).2) then R (.tup [.v (Value.slice none 0 0),.v (.bool false)]) [] else(∀ M:Mem,(0:Int)≤(1:Int)∧(1:Int)<(2:Int))∧(∀ M:Mem,1<2)∧bif decide ((gN l k).3<(0:Int)) then R (.tup [.v (Value.slice none 0 0),.v (.bool false)]) [] else(∀ M:Mem,0<1)∧bif decide ((↑k:Int)≤(gN l k).3) then R (.tup [.v (Value.slice none 0 0),.v (.bool false)]) [] else(∀ M:Mem,(k+1)*16≤140737488355328∧k+1≤140737488355328)∧K [.rnd [0,0,1,0,1,1] M,.blk 0,.at [1,1,1]] (St.mk [(13,.v (qA (IntKind.wrap .i64 ((↑k:Int)+(1:Int))))),(12,.v (qA (↑n:Int))),(11,.x 0 []),(4,.o 1)] [.ext b (.s false 7 n (cN l)),.rowc 190 1 (k+1) (.app k c (.lit 1 [.v (Value.iface 219 (Value.agg (Array.mk [qA (gN l k).2,qA (gN l k).3])))]))]) else bif(gN l k).1==(8:Int) then(∀ M:Mem,(0:Int)≤(0:Int)∧(0:Int)<(1:Int))∧(∀ M:Mem,0<1)∧bif decide ((gN l k).2<(0:Int)) then R (.tup [.v (Value.slice none 0 0),.v (.bool false)]) [] else(∀ M:Mem,0<1)∧bif decide ((↑k:Int)≤(gN l k).2) then R (.tup [.v (Value.slice none 0 0),.v (.bool false)]) [] else(∀ M:Mem,(k+1)*16≤140737488355328∧k+1≤140737488355328)∧K [.rnd [0,0,1,0,1,1] M,.blk 0,.at [1,1,1]] (St.mk [(13,.v (qA (IntKind.wrap .i64 ((↑k:Int)+(1:Int))))),(12,.v (qA (↑n:Int))),(11,.x 0 []),(4,.o 1)] [.ext b (.s false 7 n (cN l)),.rowc 190 1 (k+1) (.app k c (.lit 1 [.v (Value.iface 221 (Value.agg (Array.mk [qA (gN l k).2,qE (↑(qF (gN l k).4 0):Int),qE (↑(qF (gN l k).4 1):Int),qE (↑(qF (gN l k).4 2):Int),qE (↑(qF (gN l k).4 3):Int)])))]))]) else R (.tup [.v (Value.slice none 0 0),.v (.bool false)]) [] else R (.tup [.o 0,.v (.bool true)]) [.rowc 190 1 k c]):=by kernel_rfl
theorem stS(b:Bool)(l:List Nd)(n:Nat)(K:List It→St→Prop)(R:SV→List HO→Prop):W (xwp Tryz.prog X (Con.none _) [(118,[]),(101,[]),(129,[([0,1,0,1],3)]),(137,[]),(172,[]),(176,[]),(179,[]),(187,[])] 60 (qO Tryz.f120 [] [⟨[0,1,0,1,1],[13,12,11,4],[(4,190,1)]⟩]) [] [.at []] ⟨qQ 0 [.x 0 []],[.ext b (.s false 7 n (cN l))]⟩ K R)=W (K [.at [0,1,0,1,1],.blk 0,.at [1,1,1]] (St.mk [(13,.v (qA 0)),(12,.v (qA (↑n:Int))),(11,.x 0 []),(4,.o 1)] [.ext b (.s false 7 n (cN l)),.rowc 190 1 0 (.lit 1 [])])):=by kernel_rfl
theorem qZu(b:Bool)(all:List Nd)(hb:all.length≤4398046511104)(Q:SV→List HO→Prop)(hq1:zV 0 all=true→Q (.tup [.o 0,.v (.bool true)]) [.rowc 190 1 all.length (.fn (cS all))])(hq0:zV 0 all=false→Q (.tup [.v (.slice none 0 0),.v (.bool false)]) []):
  ∀(d k:Nat),k+d=all.length→zV 0 all=zV k (all.drop k) →
  FOk Tryz.prog Tryz.f120 Q (.rnd [0,0,1,0,1,1] (d+1)::[.blk 0,.at [1,1,1]]) ⟨[(13,.v (.int .i64 (k:Int))),(12,.v (.int .i64 (all.length:Int))),(11,.x 0 []),(4,.o 1)],[.ext b (.s false 7 all.length (cN all)),.rowc 190 1 k (.fn (cS all))]⟩
 | 0,k,hd,ho=>by
  refine FOk.rnd (qC hm 60 ((stR b all (.fn (cS all)) all.length k 0 _ _).mpr ⟨?_⟩))
  simp only[qD]
  rw[if_neg (by omega)]
  have hk:k=all.length:=by omega
  rw[hk,List.drop_length] at ho
  rw[hk]
  exact hq1 ho
 | d+1,k,hd,ho=>by
  rw[qEi (by omega),zV] at ho
  have hno:okN k (gN all k)=false→Q (.tup [.v (.slice none 0 0),.v (.bool false)]) []:=fun h=>hq0 (by rw[ho,h]; rfl)
  have hyes:okN k (gN all k)=true→∀ x,x=qB.v (stV (gN all k))→FOk Tryz.prog Tryz.f120 Q (.rnd [0,0,1,0,1,1] (d+1)::[.blk 0,.at [1,1,1]]) ⟨[(13,.v (.int .i64 (IntKind.wrap .i64 ((k:Int)+1)))),(12,.v (.int .i64 (all.length:Int))),(11,.x 0 []),(4,.o 1)],[.ext b (.s false 7 all.length (cN all)),.rowc 190 1 (k+1) (.app k (.fn (cS all)) (.lit 1 [x]))]⟩:=fun h x hx=>by
   rw[qK _ (by omega)]
   exact FOk.cv (qZu b all hb Q hq1 hq0 d (k+1) (by omega) (by rw[ho,h]; rfl)) ⟨HE.refl _,⟨rfl,rfl,rfl,zFy hx⟩,trivial⟩
  refine FOk.rnd (qC hm 60 ((stR b all (.fn (cS all)) all.length k (d+1) _ _).mpr ⟨?_⟩))
  simp only[qD,zC,forall_const]
  repeat' (first | refine And.intro ?_ ?_ | refine qG (fun _=>?_) (fun _=>?_))
  all_goals first
   | omega
   | exact hno (by rw[Bool.eq_false_iff,ne_eq,qEm]; omega)
   | exact hyes ((qEm _ _).2 (by omega)) _ (by first | rw[zAg (by omega)] | rw[zAe (by omega)] | rw[qYk (by omega)] | rw[zAa (by omega)] | rw[qYx (by omega)] | rw[qPa (by omega)])
theorem zOz:Tryz.f120.body.isSome=true:=by kernel_rfl
theorem zJx:Nat.ble [SV.x 0 []].length Tryz.f120.ntmps=true:=by kernel_rfl
theorem zCs(b:Bool)(all:List Nd)(hb:all.length≤4398046511104)(Q:SV→List HO→Prop)(hq1:zV 0 all=true→Q (.tup [.o 0,.v (.bool true)]) [.rowc 190 1 all.length (.fn (cS all))])(hq0:zV 0 all=false→Q (.tup [.v (.slice none 0 0),.v (.bool false)]) []):
  qI Tryz.prog 120 [.x 0 []] [.ext b (.s false 7 all.length (cN all))] Q:=by
 refine qL Tryz.func120 zOz ?_ ?_
 ·exact zJx
 refine qC hm 60 ((stS b all all.length _ _).mpr ⟨?_⟩)
 exact FOk.loop (all.length+1) (by kernel_rfl) (FOk.cv (qZu b all hb Q hq1 hq0 all.length 0 (by omega) rfl) ⟨HE.refl _,⟨rfl,rfl,rfl,fun k hk=>by omega⟩,trivial⟩)
noncomputable def qWu:List SV→List HO→Option ((SV→List HO→Prop)→Prop)
 | [.x 0 []],[.ext _ (.s false 7 n c)]=>some fun Q=>∃ l:List Nd,n=l.length∧IsC n 7 c (cN l)∧l.length≤4398046511104∧bif zV 0 l then Q (.tup [.o 0,.v (.bool true)]) [.rowc 190 1 n (.fn (cS l))] else Q (.tup [.v (.slice none 0 0),.v (.bool false)]) []
 | _,_=>none
theorem zAs(args:List SV)(h:List HO)(tr:(SV→List HO→Prop)→Prop)(Q:SV→List HO→Prop)(hc:qWu args h=some tr)(ht:tr Q):qI Tryz.prog 120 args h Q:=by
 unfold qWu at hc
 split at hc
 ·rename_i b n c
  simp only[sI] at hc
  subst hc
  obtain⟨l,rfl,he,hb,hq⟩:=ht
  refine qI.ac (zCs b l hb Q (fun h=>?_) (fun h=>?_)) ⟨⟨rfl,rfl,rfl,rfl,he⟩,trivial⟩
  ·rw[h] at hq; exact hq
  ·rw[h] at hq; exact hq
 ·cases hc
noncomputable def K3:Con Tryz.prog:=(Con.none _).add 120 qWu zAs
end Go.Proofs.YtlmjdcbhpffanaaGreat
/- The check of nodes. -/
namespace Go.Pl
open Go.Sx
theorem qX(f a i:Int)(x:Nd):qEa f a i x=true↔(2≤x.op∧x.op≤4)∧(x.a<0∨qJe f a i x.op≤x.a∨x.b < -3∨3<x.b):=by
 rw[qEa,qQi,Bool.and_eq_true,decide_eq_true_eq,decide_eq_true_eq]
theorem qDw{l:List Nd}{k:Nat}(h:k<l.length):gN l k∈l:=by
 rw[gN,List.getD_eq_getElem?_getD,List.getElem?_eq_getElem h]; exact List.getElem_mem h
theorem zEk{l:List Nd}{k:Nat}(p:Nd→Bool)(h:k<l.length):(l.drop k).any p=(p (gN l k)||(l.drop (k+1)).any p):=by
 rw[qEi h,List.any_cons]
theorem qEl{l:List Nd}{f a i:Int}(h:64<l.length∨zV 0 l=false∨l.any (qEa f a i)=true):qAa l f a i=110:=by rw[qAa,if_pos h]
theorem zFa{l:List Nd}{f a i:Int}(h:¬ (64<l.length∨zV 0 l=false∨l.any (qEa f a i)=true)):qAa l f a i=0:=by rw[qAa,if_neg h]
end Go.Pl
namespace Go.Proofs.YtlmjdcbhpffanaaGreat
open Go.Sx Go.Pl
set_option linter.unusedVariables false
set_option maxRecDepth 100000
theorem chc(l:List Nd)(n k M:Nat)(f a i:Int)(K:List It→St→Prop)(R:SV→List HO→Prop):W (xwp Tryz.prog X K3 [] 60 (qO Tryz.f98 [] [⟨[0,1,0,1,1,1,1],[34,33,32,11],[]⟩]) [.as 37 (.v (.iface 200 (.agg #[.int .u64 (qF (gN l k).v 0:Nat),.int .u64 (qF (gN l k).v 1:Nat),.int .u64 (qF (gN l k).v 2:Nat),.int .u64 (qF (gN l k).v 3:Nat)])))] (.at [0,0,1,0,1,1,1,1]::.rnd [0,0,1,0,1,1,1,1] M::[.blk 0,.at [1,1,1,1,1]]) ⟨[(34,.v (.int .i64 (k:Int))),(33,.v (.int .i64 (n:Int))),(32,.o 0),(11,.p 1 0)],[.rowc 190 1 n (.fn (cS l)),.cells [.v (.int .i64 0),.v (.int .i64 0),.v (.int .i64 f),.v (.int .i64 a),.v (.int .i64 i)] 206]⟩ K R)=W (bif decide ((↑k:Int)<(↑n:Int)) then(∀ M:Mem,(0:Int)≤(↑k:Int)∧(↑k:Int)<(↑n:Int))∧(∀ M:Mem,k<n)∧(∀ M:Mem,stV (gN l k)=Value.iface 200 (Value.agg (Array.mk [qE (↑(qF (gN l k).4 0):Int),qE (↑(qF (gN l k).4 1):Int),qE (↑(qF (gN l k).4 2):Int),qE (↑(qF (gN l k).4 3):Int)])))∧(∀ M:Mem,3≤3)∧K [.rnd [0,0,1,0,1,1,1,1] M,.blk 0,.at [1,1,1,1,1]] (St.mk [(34,.v (qA (IntKind.wrap .i64 ((↑k:Int)+(1:Int))))),(33,.v (qA (↑n:Int))),(32,.o 0),(11,.p 1 0)] [.rowc 190 1 n (.fn (cS l)),.cells [.v (qA 0),.v (qA 0),.v (qA f),.v (qA a),.v (qA i)] 206]) else R (.v (qA 0)) []):=by kernel_rfl
theorem chn(l:List Nd)(n k M:Nat)(f a i:Int)(K:List It→St→Prop)(R:SV→List HO→Prop):W (xwp Tryz.prog X K3 [] 60 (qO Tryz.f98 [] [⟨[0,1,0,1,1,1,1],[34,33,32,11],[]⟩]) [.as 37 (.v (.iface 216 (.agg #[.int .i64 (gN l k).a])))] (.at [0,0,1,0,1,1,1,1]::.rnd [0,0,1,0,1,1,1,1] M::[.blk 0,.at [1,1,1,1,1]]) ⟨[(34,.v (.int .i64 (k:Int))),(33,.v (.int .i64 (n:Int))),(32,.o 0),(11,.p 1 0)],[.rowc 190 1 n (.fn (cS l)),.cells [.v (.int .i64 0),.v (.int .i64 0),.v (.int .i64 f),.v (.int .i64 a),.v (.int .i64 i)] 206]⟩ K R)=W (bif decide ((↑k:Int)<(↑n:Int)) then(∀ M:Mem,(0:Int)≤(↑k:Int)∧(↑k:Int)<(↑n:Int))∧(∀ M:Mem,k<n)∧(∀ M:Mem,stV (gN l k)=Value.iface 216 (Value.agg (Array.mk [qA (gN l k).2])))∧(∀ M:Mem,3≤3)∧K [.rnd [0,0,1,0,1,1,1,1] M,.blk 0,.at [1,1,1,1,1]] (St.mk [(34,.v (qA (IntKind.wrap .i64 ((↑k:Int)+(1:Int))))),(33,.v (qA (↑n:Int))),(32,.o 0),(11,.p 1 0)] [.rowc 190 1 n (.fn (cS l)),.cells [.v (qA 0),.v (qA 0),.v (qA f),.v (qA a),.v (qA i)] 206]) else R (.v (qA 0)) []):=by kernel_rfl
theorem cha(l:List Nd)(n k M:Nat)(f a i:Int)(K:List It→St→Prop)(R:SV→List HO→Prop):W (xwp Tryz.prog X K3 [] 60 (qO Tryz.f98 [] [⟨[0,1,0,1,1,1,1],[34,33,32,11],[]⟩]) [.as 37 (.v (.iface 218 (.agg #[.int .i64 (gN l k).a,.int .i64 (gN l k).b])))] (.at [0,0,1,0,1,1,1,1]::.rnd [0,0,1,0,1,1,1,1] M::[.blk 0,.at [1,1,1,1,1]]) ⟨[(34,.v (.int .i64 (k:Int))),(33,.v (.int .i64 (n:Int))),(32,.o 0),(11,.p 1 0)],[.rowc 190 1 n (.fn (cS l)),.cells [.v (.int .i64 0),.v (.int .i64 0),.v (.int .i64 f),.v (.int .i64 a),.v (.int .i64 i)] 206]⟩ K R)=W (bif decide ((↑k:Int)<(↑n:Int)) then(∀ M:Mem,(0:Int)≤(↑k:Int)∧(↑k:Int)<(↑n:Int))∧(∀ M:Mem,k<n)∧(∀ M:Mem,stV (gN l k)=Value.iface 218 (Value.agg (Array.mk [qA (gN l k).2,qA (gN l k).3])))∧(∀ M:Mem,3≤3)∧K [.rnd [0,0,1,0,1,1,1,1] M,.blk 0,.at [1,1,1,1,1]] (St.mk [(34,.v (qA (IntKind.wrap .i64 ((↑k:Int)+(1:Int))))),(33,.v (qA (↑n:Int))),(32,.o 0),(11,.p 1 0)] [.rowc 190 1 n (.fn (cS l)),.cells [.v (qA 0),.v (qA 0),.v (qA f),.v (qA a),.v (qA i)] 206]) else R (.v (qA 0)) []):=by kernel_rfl
theorem chm(l:List Nd)(n k M:Nat)(f a i:Int)(K:List It→St→Prop)(R:SV→List HO→Prop):W (xwp Tryz.prog X K3 [] 60 (qO Tryz.f98 [] [⟨[0,1,0,1,1,1,1],[34,33,32,11],[]⟩]) [.as 37 (.v (.iface 219 (.agg #[.int .i64 (gN l k).a,.int .i64 (gN l k).b])))] (.at [0,0,1,0,1,1,1,1]::.rnd [0,0,1,0,1,1,1,1] M::[.blk 0,.at [1,1,1,1,1]]) ⟨[(34,.v (.int .i64 (k:Int))),(33,.v (.int .i64 (n:Int))),(32,.o 0),(11,.p 1 0)],[.rowc 190 1 n (.fn (cS l)),.cells [.v (.int .i64 0),.v (.int .i64 0),.v (.int .i64 f),.v (.int .i64 a),.v (.int .i64 i)] 206]⟩ K R)=W (bif decide ((↑k:Int)<(↑n:Int)) then(∀ M:Mem,(0:Int)≤(↑k:Int)∧(↑k:Int)<(↑n:Int))∧(∀ M:Mem,k<n)∧(∀ M:Mem,stV (gN l k)=Value.iface 219 (Value.agg (Array.mk [qA (gN l k).2,qA (gN l k).3])))∧(∀ M:Mem,3≤3)∧K [.rnd [0,0,1,0,1,1,1,1] M,.blk 0,.at [1,1,1,1,1]] (St.mk [(34,.v (qA (IntKind.wrap .i64 ((↑k:Int)+(1:Int))))),(33,.v (qA (↑n:Int))),(32,.o 0),(11,.p 1 0)] [.rowc 190 1 n (.fn (cS l)),.cells [.v (qA 0),.v (qA 0),.v (qA f),.v (qA a),.v (qA i)] 206]) else R (.v (qA 0)) []):=by kernel_rfl
theorem chs(l:List Nd)(n k M:Nat)(f a i:Int)(K:List It→St→Prop)(R:SV→List HO→Prop):W (xwp Tryz.prog X K3 [] 60 (qO Tryz.f98 [] [⟨[0,1,0,1,1,1,1],[34,33,32,11],[]⟩]) [.as 37 (.v (.iface 221 (.agg #[.int .i64 (gN l k).a,.int .u64 (qF (gN l k).v 0:Nat),.int .u64 (qF (gN l k).v 1:Nat),.int .u64 (qF (gN l k).v 2:Nat),.int .u64 (qF (gN l k).v 3:Nat)])))] (.at [0,0,1,0,1,1,1,1]::.rnd [0,0,1,0,1,1,1,1] M::[.blk 0,.at [1,1,1,1,1]]) ⟨[(34,.v (.int .i64 (k:Int))),(33,.v (.int .i64 (n:Int))),(32,.o 0),(11,.p 1 0)],[.rowc 190 1 n (.fn (cS l)),.cells [.v (.int .i64 0),.v (.int .i64 0),.v (.int .i64 f),.v (.int .i64 a),.v (.int .i64 i)] 206]⟩ K R)=W (bif decide ((↑k:Int)<(↑n:Int)) then(∀ M:Mem,(0:Int)≤(↑k:Int)∧(↑k:Int)<(↑n:Int))∧(∀ M:Mem,k<n)∧(∀ M:Mem,stV (gN l k)=Value.iface 221 (Value.agg (Array.mk [qA (gN l k).2,qE (↑(qF (gN l k).4 0):Int),qE (↑(qF (gN l k).4 1):Int),qE (↑(qF (gN l k).4 2):Int),qE (↑(qF (gN l k).4 3):Int)])))∧(∀ M:Mem,3≤3)∧K [.rnd [0,0,1,0,1,1,1,1] M,.blk 0,.at [1,1,1,1,1]] (St.mk [(34,.v (qA (IntKind.wrap .i64 ((↑k:Int)+(1:Int))))),(33,.v (qA (↑n:Int))),(32,.o 0),(11,.p 1 0)] [.rowc 190 1 n (.fn (cS l)),.cells [.v (qA 0),.v (qA 0),.v (qA f),.v (qA a),.v (qA i)] 206]) else R (.v (qA 0)) []):=by kernel_rfl
theorem zYf(l:List Nd)(n k M:Nat)(f a i:Int)(K:List It→St→Prop)(R:SV→List HO→Prop):W (xwp Tryz.prog X K3 [] 60 (qO Tryz.f98 [] [⟨[0,1,0,1,1,1,1],[34,33,32,11],[]⟩]) [.as 37 (.v (.iface 193 (.agg #[.int .i64 2,.int .i64 (gN l k).a,.int .i64 (gN l k).b])))] (.at [0,0,1,0,1,1,1,1]::.rnd [0,0,1,0,1,1,1,1] M::[.blk 0,.at [1,1,1,1,1]]) ⟨[(34,.v (.int .i64 (k:Int))),(33,.v (.int .i64 (n:Int))),(32,.o 0),(11,.p 1 0)],[.rowc 190 1 n (.fn (cS l)),.cells [.v (.int .i64 0),.v (.int .i64 0),.v (.int .i64 f),.v (.int .i64 a),.v (.int .i64 i)] 206]⟩ K R)=W (bif decide ((↑k:Int)<(↑n:Int)) then(∀ M:Mem,(0:Int)≤(↑k:Int)∧(↑k:Int)<(↑n:Int))∧(∀ M:Mem,k<n)∧(∀ M:Mem,stV (gN l k)=Value.iface 193 (Value.agg (Array.mk [qA 2,qA (gN l k).2,qA (gN l k).3])))∧(∀ M:Mem,0+3≤3)∧bif decide ((gN l k).2<(0:Int)) then R (.v (qA 110)) [] else(∀ M:Mem,(0:Int)≤(2:Int)∧(2:Int)<(5:Int))∧bif decide (f≤(gN l k).2) then R (.v (qA 110)) [] else bif decide ((gN l k).3<(-3:Int)) then R (.v (qA 110)) [] else bif decide ((3:Int)<(gN l k).3) then R (.v (qA 110)) [] else K [.rnd [0,0,1,0,1,1,1,1] M,.blk 0,.at [1,1,1,1,1]] (St.mk [(34,.v (qA (IntKind.wrap .i64 ((↑k:Int)+(1:Int))))),(33,.v (qA (↑n:Int))),(32,.o 0),(11,.p 1 0)] [.rowc 190 1 n (.fn (cS l)),.cells [.v (qA 0),.v (qA 0),.v (qA f),.v (qA a),.v (qA i)] 206]) else R (.v (qA 0)) []):=by kernel_rfl
theorem zYd(l:List Nd)(n k M:Nat)(f a i:Int)(K:List It→St→Prop)(R:SV→List HO→Prop):W (xwp Tryz.prog X K3 [] 60 (qO Tryz.f98 [] [⟨[0,1,0,1,1,1,1],[34,33,32,11],[]⟩]) [.as 37 (.v (.iface 193 (.agg #[.int .i64 3,.int .i64 (gN l k).a,.int .i64 (gN l k).b])))] (.at [0,0,1,0,1,1,1,1]::.rnd [0,0,1,0,1,1,1,1] M::[.blk 0,.at [1,1,1,1,1]]) ⟨[(34,.v (.int .i64 (k:Int))),(33,.v (.int .i64 (n:Int))),(32,.o 0),(11,.p 1 0)],[.rowc 190 1 n (.fn (cS l)),.cells [.v (.int .i64 0),.v (.int .i64 0),.v (.int .i64 f),.v (.int .i64 a),.v (.int .i64 i)] 206]⟩ K R)=W (bif decide ((↑k:Int)<(↑n:Int)) then(∀ M:Mem,(0:Int)≤(↑k:Int)∧(↑k:Int)<(↑n:Int))∧(∀ M:Mem,k<n)∧(∀ M:Mem,stV (gN l k)=Value.iface 193 (Value.agg (Array.mk [qA 3,qA (gN l k).2,qA (gN l k).3])))∧(∀ M:Mem,0+3≤3)∧bif decide ((gN l k).2<(0:Int)) then R (.v (qA 110)) [] else(∀ M:Mem,(0:Int)≤(3:Int)∧(3:Int)<(5:Int))∧bif decide (a≤(gN l k).2) then R (.v (qA 110)) [] else bif decide ((gN l k).3<(-3:Int)) then R (.v (qA 110)) [] else bif decide ((3:Int)<(gN l k).3) then R (.v (qA 110)) [] else K [.rnd [0,0,1,0,1,1,1,1] M,.blk 0,.at [1,1,1,1,1]] (St.mk [(34,.v (qA (IntKind.wrap .i64 ((↑k:Int)+(1:Int))))),(33,.v (qA (↑n:Int))),(32,.o 0),(11,.p 1 0)] [.rowc 190 1 n (.fn (cS l)),.cells [.v (qA 0),.v (qA 0),.v (qA f),.v (qA a),.v (qA i)] 206]) else R (.v (qA 0)) []):=by kernel_rfl
theorem zYl(l:List Nd)(n k M:Nat)(f a i:Int)(K:List It→St→Prop)(R:SV→List HO→Prop):W (xwp Tryz.prog X K3 [] 60 (qO Tryz.f98 [] [⟨[0,1,0,1,1,1,1],[34,33,32,11],[]⟩]) [.as 37 (.v (.iface 193 (.agg #[.int .i64 4,.int .i64 (gN l k).a,.int .i64 (gN l k).b])))] (.at [0,0,1,0,1,1,1,1]::.rnd [0,0,1,0,1,1,1,1] M::[.blk 0,.at [1,1,1,1,1]]) ⟨[(34,.v (.int .i64 (k:Int))),(33,.v (.int .i64 (n:Int))),(32,.o 0),(11,.p 1 0)],[.rowc 190 1 n (.fn (cS l)),.cells [.v (.int .i64 0),.v (.int .i64 0),.v (.int .i64 f),.v (.int .i64 a),.v (.int .i64 i)] 206]⟩ K R)=W (bif decide ((↑k:Int)<(↑n:Int)) then(∀ M:Mem,(0:Int)≤(↑k:Int)∧(↑k:Int)<(↑n:Int))∧(∀ M:Mem,k<n)∧(∀ M:Mem,stV (gN l k)=Value.iface 193 (Value.agg (Array.mk [qA 4,qA (gN l k).2,qA (gN l k).3])))∧(∀ M:Mem,0+3≤3)∧bif decide ((gN l k).2<(0:Int)) then R (.v (qA 110)) [] else(∀ M:Mem,(0:Int)≤(4:Int)∧(4:Int)<(5:Int))∧bif decide (i≤(gN l k).2) then R (.v (qA 110)) [] else bif decide ((gN l k).3<(-3:Int)) then R (.v (qA 110)) [] else bif decide ((3:Int)<(gN l k).3) then R (.v (qA 110)) [] else K [.rnd [0,0,1,0,1,1,1,1] M,.blk 0,.at [1,1,1,1,1]] (St.mk [(34,.v (qA (IntKind.wrap .i64 ((↑k:Int)+(1:Int))))),(33,.v (qA (↑n:Int))),(32,.o 0),(11,.p 1 0)] [.rowc 190 1 n (.fn (cS l)),.cells [.v (qA 0),.v (qA 0),.v (qA f),.v (qA a),.v (qA i)] 206]) else R (.v (qA 0)) []):=by kernel_rfl
theorem chS(b:Bool)(l:List Nd)(f a i:Int)(K:List It→St→Prop)(R:SV→List HO→Prop):W (xwp Tryz.prog X K3 [] 60 (qO Tryz.f98 [] [⟨[0,1,0,1,1,1,1],[34,33,32,11],[]⟩]) [] [.at []] ⟨qQ 0 [.x 0 [],.v (.int .i64 f),.v (.int .i64 a),.v (.int .i64 i)],[.ext b (.s false 7 l.length (cN l))]⟩ K R)=W (∃(l_1:List Nd),List.length l=List.length l_1∧IsC l.length 7 (cN l) (cN l_1)∧List.length l_1≤4398046511104∧bif zV 0 l_1 then bif decide ((64:Int)<(↑l.length:Int)) then R (.v (qA 110)) [] else(∀ M:Mem,0+5≤5)∧K [.at [0,1,0,1,1,1,1],.blk 0,.at [1,1,1,1,1]] (St.mk [(34,.v (qA 0)),(33,.v (qA (↑l.length:Int))),(32,.o 0),(11,.p 1 0)] [.rowc 190 1 l.length (.fn (cS l_1)),.cells [.v (qA 0),.v (qA 0),.v (qA f),.v (qA a),.v (qA i)] 206]) else R (.v (qA 110)) []):=by kernel_rfl
theorem qYl(all:List Nd)(f a i:Int)(ho:zV 0 all=true)(hb:all.length≤4398046511104)(Q:SV→List HO→Prop)(hq1:all.any (qEa f a i)=true→Q (.v (.int .i64 110)) [])(hq0:all.any (qEa f a i)=false→Q (.v (.int .i64 0)) []):
  ∀(d k:Nat),k+d=all.length→all.any (qEa f a i)=(all.drop k).any (qEa f a i) →
  FOk Tryz.prog Tryz.f98 Q (.rnd [0,0,1,0,1,1,1,1] (d+1)::[.blk 0,.at [1,1,1,1,1]]) ⟨[(34,.v (.int .i64 (k:Int))),(33,.v (.int .i64 (all.length:Int))),(32,.o 0),(11,.p 1 0)],[.rowc 190 1 all.length (.fn (cS all)),.cells [.v (.int .i64 0),.v (.int .i64 0),.v (.int .i64 f),.v (.int .i64 a),.v (.int .i64 i)] 206]⟩
 | 0,k,hd,he=>by
  refine FOk.rnd (qC hm 60 ((chc all all.length k 0 f a i _ _).mpr ⟨?_⟩))
  simp only[qD]
  rw[if_neg (by omega)]
  rw[show k=all.length by omega,List.drop_length] at he
  exact hq0 he
 | d+1,k,hd,he=>by
  have hk:k<all.length:=by omega
  rw[zEk _ hk] at he
  have hop:=qCp all 0 ho _ (qDw hk)
  have no:qEa f a i (gN all k)=true→Q (.v (.int .i64 110)) []:=fun h=>hq1 (by rw[he,h]; rfl)
  have yes:qEa f a i (gN all k)=false→FOk Tryz.prog Tryz.f98 Q (.rnd [0,0,1,0,1,1,1,1] (d+1)::[.blk 0,.at [1,1,1,1,1]]) ⟨[(34,.v (.int .i64 (IntKind.wrap .i64 ((k:Int)+1)))),(33,.v (.int .i64 (all.length:Int))),(32,.o 0),(11,.p 1 0)],[.rowc 190 1 all.length (.fn (cS all)),.cells [.v (.int .i64 0),.v (.int .i64 0),.v (.int .i64 f),.v (.int .i64 a),.v (.int .i64 i)] 206]⟩:=fun h=>by
   rw[qK _ (by omega)]
   exact qYl all f a i ho hb Q hq1 hq0 d (k+1) (by omega) (by rw[he,h]; rfl)
  by_cases h:(gN all k).op=1
  ·refine FOk.rnd (qC hm 60 ((chc all all.length k (d+1) f a i _ _).mpr ⟨?_⟩))
   simp only[qD,forall_const]
   repeat' (first | refine And.intro ?_ ?_ | refine qG (fun _=>?_) (fun _=>?_))
   all_goals first
    | omega
    | exact(zAg h)
    | exact no (by rw[qX]; omega)
    | exact yes (by rw[Bool.eq_false_iff,ne_eq,qX]; omega)
  by_cases h:(gN all k).op=5
  ·refine FOk.rnd (qC hm 60 ((chn all all.length k (d+1) f a i _ _).mpr ⟨?_⟩))
   simp only[qD,forall_const]
   repeat' (first | refine And.intro ?_ ?_ | refine qG (fun _=>?_) (fun _=>?_))
   all_goals first
    | omega
    | exact(zAe h)
    | exact no (by rw[qX]; omega)
    | exact yes (by rw[Bool.eq_false_iff,ne_eq,qX]; omega)
  by_cases h:(gN all k).op=6
  ·refine FOk.rnd (qC hm 60 ((cha all all.length k (d+1) f a i _ _).mpr ⟨?_⟩))
   simp only[qD,forall_const]
   repeat' (first | refine And.intro ?_ ?_ | refine qG (fun _=>?_) (fun _=>?_))
   all_goals first
    | omega
    | exact(qYk h)
    | exact no (by rw[qX]; omega)
    | exact yes (by rw[Bool.eq_false_iff,ne_eq,qX]; omega)
  by_cases h:(gN all k).op=7
  ·refine FOk.rnd (qC hm 60 ((chm all all.length k (d+1) f a i _ _).mpr ⟨?_⟩))
   simp only[qD,forall_const]
   repeat' (first | refine And.intro ?_ ?_ | refine qG (fun _=>?_) (fun _=>?_))
   all_goals first
    | omega
    | exact(zAa h)
    | exact no (by rw[qX]; omega)
    | exact yes (by rw[Bool.eq_false_iff,ne_eq,qX]; omega)
  by_cases h:(gN all k).op=8
  ·refine FOk.rnd (qC hm 60 ((chs all all.length k (d+1) f a i _ _).mpr ⟨?_⟩))
   simp only[qD,forall_const]
   repeat' (first | refine And.intro ?_ ?_ | refine qG (fun _=>?_) (fun _=>?_))
   all_goals first
    | omega
    | exact(qYx h)
    | exact no (by rw[qX]; omega)
    | exact yes (by rw[Bool.eq_false_iff,ne_eq,qX]; omega)
  by_cases h:(gN all k).op=2
  ·refine FOk.rnd (qC hm 60 ((zYf all all.length k (d+1) f a i _ _).mpr ⟨?_⟩))
   have hmo:qJe f a i (gN all k).op=f:=by rw[h]; rfl
   simp only[qD,forall_const]
   repeat' (first | refine And.intro ?_ ?_ | refine qG (fun _=>?_) (fun _=>?_))
   all_goals first
    | omega
    | exact(by rw[qPa (by omega),h])
    | exact no (by rw[qX,hmo]; omega)
    | exact yes (by rw[Bool.eq_false_iff,ne_eq,qX,hmo]; omega)
  by_cases h:(gN all k).op=3
  ·refine FOk.rnd (qC hm 60 ((zYd all all.length k (d+1) f a i _ _).mpr ⟨?_⟩))
   have hmo:qJe f a i (gN all k).op=a:=by rw[h]; rfl
   simp only[qD,forall_const]
   repeat' (first | refine And.intro ?_ ?_ | refine qG (fun _=>?_) (fun _=>?_))
   all_goals first
    | omega
    | exact(by rw[qPa (by omega),h])
    | exact no (by rw[qX,hmo]; omega)
    | exact yes (by rw[Bool.eq_false_iff,ne_eq,qX,hmo]; omega)
  by_cases h:(gN all k).op=4
  ·refine FOk.rnd (qC hm 60 ((zYl all all.length k (d+1) f a i _ _).mpr ⟨?_⟩))
   have hmo:qJe f a i (gN all k).op=i:=by rw[h]; rfl
   simp only[qD,forall_const]
   repeat' (first | refine And.intro ?_ ?_ | refine qG (fun _=>?_) (fun _=>?_))
   all_goals first
    | omega
    | exact(by rw[qPa (by omega),h])
    | exact no (by rw[qX,hmo]; omega)
    | exact yes (by rw[Bool.eq_false_iff,ne_eq,qX,hmo]; omega)
  omega
theorem zXf:Tryz.f98.body.isSome=true:=by kernel_rfl
theorem zYn(f a i:Int):Nat.ble [SV.x 0 [],.v (.int .i64 f),.v (.int .i64 a),.v (.int .i64 i)].length Tryz.f98.ntmps=true:=by kernel_rfl
theorem zCa(b:Bool)(all:List Nd)(f a i:Int)(hb:all.length≤4398046511104)(Q:SV→List HO→Prop)(hq:Q (.v (.int .i64 (qAa all f a i))) []):qI Tryz.prog 98 [.x 0 [],.v (.int .i64 f),.v (.int .i64 a),.v (.int .i64 i)] [.ext b (.s false 7 all.length (cN all))] Q:=by
 refine qL Tryz.func98 zXf ?_ ?_
 ·exact zYn f a i
 refine qC hm 60 ((chS b all f a i _ _).mpr ⟨?_⟩)
 simp only[qD,forall_const]
 refine⟨all,rfl,IsC.refl _ _ _,hb,qJ (fun ho=>?_) (fun ho=>?_)⟩
 ·refine qG (fun h=>?_) (fun h=>⟨by omega,?_⟩)
  ·rw[qEl (.inl (by omega))] at hq; exact hq
  ·refine FOk.loop (all.length+1) (by kernel_rfl) (qYl all f a i ho hb Q (fun hh=>?_) (fun hh=>?_) all.length 0 (by omega) rfl)
   ·rw[qEl (.inr (.inr hh))] at hq; exact hq
   ·rw[zFa (by rw[ho,hh]; simp; omega)] at hq; exact hq
 ·rw[qEl (.inr (.inl ho))] at hq; exact hq
noncomputable def zKr:List SV→List HO→Option ((SV→List HO→Prop)→Prop)
 | [.x 0 [],.v (.int .i64 f),.v (.int .i64 a),.v (.int .i64 i)],[.ext _ (.s false 7 n c)]=>some fun Q=>∃ l:List Nd,n=l.length∧IsC n 7 c (cN l)∧l.length≤4398046511104∧Q (.v (.int .i64 (qAa l f a i))) []
 | _,_=>none
theorem zGc(args:List SV)(h:List HO)(tr:(SV→List HO→Prop)→Prop)(Q:SV→List HO→Prop)(hc:zKr args h=some tr)(ht:tr Q):qI Tryz.prog 98 args h Q:=by
 unfold zKr at hc
 split at hc
 ·rename_i f a i b n c
  simp only[sI] at hc
  subst hc
  obtain⟨l,rfl,he,hb,hq⟩:=ht
  exact qI.ac (zCa b l f a i hb Q hq) ⟨⟨rfl,rfl,rfl,rfl,he⟩,trivial⟩
 ·cases hc
end Go.Proofs.YtlmjdcbhpffanaaGreat
/- The degrees of nodes. -/
namespace Go.Proofs.YtlmjdcbhpffanaaGreat
open Go.Sx Go.Pl
set_option linter.unusedVariables false
set_option maxRecDepth 100000
theorem dgc(l:List Nd)(out:List Int)(n k M:Nat)(K:List It→St→Prop)(R:SV→List HO→Prop):W (xwp Tryz.prog X K3 [(170,[]),(169,[]),(171,[]),(175,[]),(178,[]),(186,[])] 60 (qO Tryz.f99 [] [⟨[0,1,0,1,1,1],[15,14,13,5],[(13,190,1),(5,3,1)]⟩]) [.as 18 (.v (.iface 200 (.agg #[.int .u64 (qF (gN l k).v 0:Nat),.int .u64 (qF (gN l k).v 1:Nat),.int .u64 (qF (gN l k).v 2:Nat),.int .u64 (qF (gN l k).v 3:Nat)])))] (.at [0,0,1,0,1,1,1]::.rnd [0,0,1,0,1,1,1] M::[.blk 0,.at [1,1,1,1]]) ⟨[(15,.v (.int .i64 (k:Int))),(14,.v (.int .i64 (n:Int))),(13,.o 0),(5,.o 1)],[.rowc 190 1 n (.fn (cS l)),.rowc 3 1 k (.fn (cI out))]⟩ K R)=W (bif decide ((↑k:Int)<(↑n:Int)) then(∀ M:Mem,(0:Int)≤(↑k:Int)∧(↑k:Int)<(↑n:Int))∧(∀ M:Mem,k<n)∧(∀ M:Mem,stV (gN l k)=Value.iface 200 (Value.agg (Array.mk [qE (↑(qF (gN l k).4 0):Int),qE (↑(qF (gN l k).4 1):Int),qE (↑(qF (gN l k).4 2):Int),qE (↑(qF (gN l k).4 3):Int)])))∧(∀ M:Mem,(k+1)*8≤140737488355328∧k+1≤140737488355328)∧K [.rnd [0,0,1,0,1,1,1] M,.blk 0,.at [1,1,1,1]] (St.mk [(15,.v (qA (IntKind.wrap .i64 ((↑k:Int)+(1:Int))))),(14,.v (qA (↑n:Int))),(13,.o 0),(5,.o 1)] [.rowc 190 1 n (.fn (cS l)),.rowc 3 1 (k+1) (.app k (.fn (cI out)) (.lit 1 [.v (qA 0)]))]) else R (.o 0) [.rowc 3 1 k (.fn (cI out))]):=by kernel_rfl
theorem dgn(l:List Nd)(out:List Int)(n k M:Nat)(K:List It→St→Prop)(R:SV→List HO→Prop):W (xwp Tryz.prog X K3 [(170,[]),(169,[]),(171,[]),(175,[]),(178,[]),(186,[])] 60 (qO Tryz.f99 [] [⟨[0,1,0,1,1,1],[15,14,13,5],[(13,190,1),(5,3,1)]⟩]) [.as 18 (.v (.iface 216 (.agg #[.int .i64 (gN l k).a])))] (.at [0,0,1,0,1,1,1]::.rnd [0,0,1,0,1,1,1] M::[.blk 0,.at [1,1,1,1]]) ⟨[(15,.v (.int .i64 (k:Int))),(14,.v (.int .i64 (n:Int))),(13,.o 0),(5,.o 1)],[.rowc 190 1 n (.fn (cS l)),.rowc 3 1 k (.fn (cI out))]⟩ K R)=W (bif decide ((↑k:Int)<(↑n:Int)) then(∀ M:Mem,(0:Int)≤(↑k:Int)∧(↑k:Int)<(↑n:Int))∧(∀ M:Mem,k<n)∧(∀ M:Mem,stV (gN l k)=Value.iface 216 (Value.agg (Array.mk [qA (gN l k).2])))∧(∀ M:Mem,(0:Int)≤(gN l k).2∧(gN l k).2<(↑k:Int))∧(∀ M:Mem,Int.toNat (gN l k).2<k)∧(∀ M:Mem,(k+1)*8≤140737488355328∧k+1≤140737488355328)∧K [.rnd [0,0,1,0,1,1,1] M,.blk 0,.at [1,1,1,1]] (St.mk [(15,.v (qA (IntKind.wrap .i64 ((↑k:Int)+(1:Int))))),(14,.v (qA (↑n:Int))),(13,.o 0),(5,.o 1)] [.rowc 190 1 n (.fn (cS l)),.rowc 3 1 (k+1) (.app k (.fn (cI out)) (.lit 1 [.v (qA (if(1000:Int)<gI out (Int.toNat (gN l k).2) then(1000:Int) else gI out (Int.toNat (gN l k).2)))]))]) else R (.o 0) [.rowc 3 1 k (.fn (cI out))]):=by kernel_rfl
theorem dga(l:List Nd)(out:List Int)(n k M:Nat)(K:List It→St→Prop)(R:SV→List HO→Prop):W (xwp Tryz.prog X K3 [(170,[]),(169,[]),(171,[]),(175,[]),(178,[]),(186,[])] 60 (qO Tryz.f99 [] [⟨[0,1,0,1,1,1],[15,14,13,5],[(13,190,1),(5,3,1)]⟩]) [.as 18 (.v (.iface 218 (.agg #[.int .i64 (gN l k).a,.int .i64 (gN l k).b])))] (.at [0,0,1,0,1,1,1]::.rnd [0,0,1,0,1,1,1] M::[.blk 0,.at [1,1,1,1]]) ⟨[(15,.v (.int .i64 (k:Int))),(14,.v (.int .i64 (n:Int))),(13,.o 0),(5,.o 1)],[.rowc 190 1 n (.fn (cS l)),.rowc 3 1 k (.fn (cI out))]⟩ K R)=W (bif decide ((↑k:Int)<(↑n:Int)) then(∀ M:Mem,(0:Int)≤(↑k:Int)∧(↑k:Int)<(↑n:Int))∧(∀ M:Mem,k<n)∧(∀ M:Mem,stV (gN l k)=Value.iface 218 (Value.agg (Array.mk [qA (gN l k).2,qA (gN l k).3])))∧(∀ M:Mem,(0:Int)≤(gN l k).2∧(gN l k).2<(↑k:Int))∧(∀ M:Mem,Int.toNat (gN l k).2<k)∧(∀ M:Mem,(0:Int)≤(gN l k).3∧(gN l k).3<(↑k:Int))∧(∀ M:Mem,Int.toNat (gN l k).3<k)∧(∀ M:Mem,(k+1)*8≤140737488355328∧k+1≤140737488355328)∧K [.rnd [0,0,1,0,1,1,1] M,.blk 0,.at [1,1,1,1]] (St.mk [(15,.v (qA (IntKind.wrap .i64 ((↑k:Int)+(1:Int))))),(14,.v (qA (↑n:Int))),(13,.o 0),(5,.o 1)] [.rowc 190 1 n (.fn (cS l)),.rowc 3 1 (k+1) (.app k (.fn (cI out)) (.lit 1 [.v (qA (if(1000:Int)<if gI out (Int.toNat (gN l k).2)<gI out (Int.toNat (gN l k).3) then gI out (Int.toNat (gN l k).3) else gI out (Int.toNat (gN l k).2) then(1000:Int) else if gI out (Int.toNat (gN l k).2)<gI out (Int.toNat (gN l k).3) then gI out (Int.toNat (gN l k).3) else gI out (Int.toNat (gN l k).2)))]))]) else R (.o 0) [.rowc 3 1 k (.fn (cI out))]):=by kernel_rfl
theorem dgm(l:List Nd)(out:List Int)(n k M:Nat)(K:List It→St→Prop)(R:SV→List HO→Prop):W (xwp Tryz.prog X K3 [(170,[]),(169,[]),(171,[]),(175,[]),(178,[]),(186,[])] 60 (qO Tryz.f99 [] [⟨[0,1,0,1,1,1],[15,14,13,5],[(13,190,1),(5,3,1)]⟩]) [.as 18 (.v (.iface 219 (.agg #[.int .i64 (gN l k).a,.int .i64 (gN l k).b])))] (.at [0,0,1,0,1,1,1]::.rnd [0,0,1,0,1,1,1] M::[.blk 0,.at [1,1,1,1]]) ⟨[(15,.v (.int .i64 (k:Int))),(14,.v (.int .i64 (n:Int))),(13,.o 0),(5,.o 1)],[.rowc 190 1 n (.fn (cS l)),.rowc 3 1 k (.fn (cI out))]⟩ K R)=W (bif decide ((↑k:Int)<(↑n:Int)) then(∀ M:Mem,(0:Int)≤(↑k:Int)∧(↑k:Int)<(↑n:Int))∧(∀ M:Mem,k<n)∧(∀ M:Mem,stV (gN l k)=Value.iface 219 (Value.agg (Array.mk [qA (gN l k).2,qA (gN l k).3])))∧(∀ M:Mem,(0:Int)≤(gN l k).2∧(gN l k).2<(↑k:Int))∧(∀ M:Mem,Int.toNat (gN l k).2<k)∧(∀ M:Mem,(0:Int)≤(gN l k).3∧(gN l k).3<(↑k:Int))∧(∀ M:Mem,Int.toNat (gN l k).3<k)∧(∀ M:Mem,(k+1)*8≤140737488355328∧k+1≤140737488355328)∧K [.rnd [0,0,1,0,1,1,1] M,.blk 0,.at [1,1,1,1]] (St.mk [(15,.v (qA (IntKind.wrap .i64 ((↑k:Int)+(1:Int))))),(14,.v (qA (↑n:Int))),(13,.o 0),(5,.o 1)] [.rowc 190 1 n (.fn (cS l)),.rowc 3 1 (k+1) (.app k (.fn (cI out)) (.lit 1 [.v (qA (if(1000:Int)<IntKind.wrap .i64 (gI out (Int.toNat (gN l k).2)+gI out (Int.toNat (gN l k).3)) then(1000:Int) else IntKind.wrap .i64 (gI out (Int.toNat (gN l k).2)+gI out (Int.toNat (gN l k).3))))]))]) else R (.o 0) [.rowc 3 1 k (.fn (cI out))]):=by kernel_rfl
theorem dgs(l:List Nd)(out:List Int)(n k M:Nat)(K:List It→St→Prop)(R:SV→List HO→Prop):W (xwp Tryz.prog X K3 [(170,[]),(169,[]),(171,[]),(175,[]),(178,[]),(186,[])] 60 (qO Tryz.f99 [] [⟨[0,1,0,1,1,1],[15,14,13,5],[(13,190,1),(5,3,1)]⟩]) [.as 18 (.v (.iface 221 (.agg #[.int .i64 (gN l k).a,.int .u64 (qF (gN l k).v 0:Nat),.int .u64 (qF (gN l k).v 1:Nat),.int .u64 (qF (gN l k).v 2:Nat),.int .u64 (qF (gN l k).v 3:Nat)])))] (.at [0,0,1,0,1,1,1]::.rnd [0,0,1,0,1,1,1] M::[.blk 0,.at [1,1,1,1]]) ⟨[(15,.v (.int .i64 (k:Int))),(14,.v (.int .i64 (n:Int))),(13,.o 0),(5,.o 1)],[.rowc 190 1 n (.fn (cS l)),.rowc 3 1 k (.fn (cI out))]⟩ K R)=W (bif decide ((↑k:Int)<(↑n:Int)) then(∀ M:Mem,(0:Int)≤(↑k:Int)∧(↑k:Int)<(↑n:Int))∧(∀ M:Mem,k<n)∧(∀ M:Mem,stV (gN l k)=Value.iface 221 (Value.agg (Array.mk [qA (gN l k).2,qE (↑(qF (gN l k).4 0):Int),qE (↑(qF (gN l k).4 1):Int),qE (↑(qF (gN l k).4 2):Int),qE (↑(qF (gN l k).4 3):Int)])))∧(∀ M:Mem,(0:Int)≤(gN l k).2∧(gN l k).2<(↑k:Int))∧(∀ M:Mem,Int.toNat (gN l k).2<k)∧(∀ M:Mem,(k+1)*8≤140737488355328∧k+1≤140737488355328)∧K [.rnd [0,0,1,0,1,1,1] M,.blk 0,.at [1,1,1,1]] (St.mk [(15,.v (qA (IntKind.wrap .i64 ((↑k:Int)+(1:Int))))),(14,.v (qA (↑n:Int))),(13,.o 0),(5,.o 1)] [.rowc 190 1 n (.fn (cS l)),.rowc 3 1 (k+1) (.app k (.fn (cI out)) (.lit 1 [.v (qA (if(1000:Int)<gI out (Int.toNat (gN l k).2) then(1000:Int) else gI out (Int.toNat (gN l k).2)))]))]) else R (.o 0) [.rowc 3 1 k (.fn (cI out))]):=by kernel_rfl
theorem dgq(l:List Nd)(out:List Int)(n k M:Nat)(K:List It→St→Prop)(R:SV→List HO→Prop):W (xwp Tryz.prog X K3 [(170,[]),(169,[]),(171,[]),(175,[]),(178,[]),(186,[])] 60 (qO Tryz.f99 [] [⟨[0,1,0,1,1,1],[15,14,13,5],[(13,190,1),(5,3,1)]⟩]) [.as 18 (.v (.iface 193 (.agg #[.int .i64 (gN l k).op,.int .i64 (gN l k).a,.int .i64 (gN l k).b])))] (.at [0,0,1,0,1,1,1]::.rnd [0,0,1,0,1,1,1] M::[.blk 0,.at [1,1,1,1]]) ⟨[(15,.v (.int .i64 (k:Int))),(14,.v (.int .i64 (n:Int))),(13,.o 0),(5,.o 1)],[.rowc 190 1 n (.fn (cS l)),.rowc 3 1 k (.fn (cI out))]⟩ K R)=W (bif decide ((↑k:Int)<(↑n:Int)) then(∀ M:Mem,(0:Int)≤(↑k:Int)∧(↑k:Int)<(↑n:Int))∧(∀ M:Mem,k<n)∧(∀ M:Mem,stV (gN l k)=Value.iface 193 (Value.agg (Array.mk [qA (gN l k).1,qA (gN l k).2,qA (gN l k).3])))∧(∀ M:Mem,(k+1)*8≤140737488355328∧k+1≤140737488355328)∧K [.rnd [0,0,1,0,1,1,1] M,.blk 0,.at [1,1,1,1]] (St.mk [(15,.v (qA (IntKind.wrap .i64 ((↑k:Int)+(1:Int))))),(14,.v (qA (↑n:Int))),(13,.o 0),(5,.o 1)] [.rowc 190 1 n (.fn (cS l)),.rowc 3 1 (k+1) (.app k (.fn (cI out)) (.lit 1 [.v (qA 1)]))]) else R (.o 0) [.rowc 3 1 k (.fn (cI out))]):=by kernel_rfl
theorem dgS(b:Bool)(l:List Nd)(K:List It→St→Prop)(R:SV→List HO→Prop):W (xwp Tryz.prog X K3 [(170,[]),(169,[]),(171,[]),(175,[]),(178,[]),(186,[])] 60 (qO Tryz.f99 [] [⟨[0,1,0,1,1,1],[15,14,13,5],[(13,190,1),(5,3,1)]⟩]) [] [.at []] ⟨qQ 0 [.x 0 []],[.ext b (.s false 7 l.length (cN l))]⟩ K R)=W (∃(l_1:List Nd),List.length l=List.length l_1∧IsC l.length 7 (cN l) (cN l_1)∧List.length l_1≤4398046511104∧bif zV 0 l_1 then K [.at [0,1,0,1,1,1],.blk 0,.at [1,1,1,1]] (St.mk [(15,.v (qA 0)),(14,.v (qA (↑l.length:Int))),(13,.o 0),(5,.o 1)] [.rowc 190 1 l.length (.fn (cS l_1)),.rowc 3 1 0 (.lit 1 [])]) else K [.at [0,1,0,1,1,1],.blk 0,.at [1,1,1,1]] (St.mk [(15,.v (qA 0)),(14,.v (qA 0)),(13,.o 0),(5,.o 1)] [.rowc 190 1 0 (.lit 1 []),.rowc 3 1 0 (.lit 1 [])])):=by kernel_rfl
theorem qQl(all:List Nd)(hb:all.length≤4398046511104)(m:Nat)(hm':m=all.length∧zV 0 all=true∨m=0∧zV 0 all=false)(Q:SV→List HO→Prop)(hq:Q (.o 0) [.rowc 3 1 (qM all).length (.fn (cI (qM all)))]):
  ∀(d k:Nat) (out:List Int),k+d=m→out.length=k→(∀ z∈out,0≤z∧z≤1000)→(m=all.length→qCb [] all=qCb out (all.drop k))→(m=0→out=[]) →
  FOk Tryz.prog Tryz.f99 Q (.rnd [0,0,1,0,1,1,1] (d+1)::[.blk 0,.at [1,1,1,1]]) ⟨[(15,.v (.int .i64 (k:Int))),(14,.v (.int .i64 (m:Int))),(13,.o 0),(5,.o 1)],[.rowc 190 1 m (.fn (cS all)),.rowc 3 1 k (.fn (cI out))]⟩
 | 0,k,out,hd,hl,hz,he,h0=>by
  refine FOk.rnd (qC hm 60 ((dgc all out m k 0 _ _).mpr ⟨?_⟩))
  simp only[qD]
  rw[if_neg (by omega)]
  have:qM all=out:=by
   rw[qM]
   rcases hm' with ⟨h1,h2⟩ | ⟨h1,h2⟩
   ·rw[if_pos h2,he h1,show k=all.length by omega,List.drop_length]; rfl
   ·rw[if_neg (by rw[h2]; simp),h0 h1]
  rw[this,hl] at hq
  exact hq
 | d+1,k,out,hd,hl,hz,he,h0=>by
  have hmm:m=all.length∧zV 0 all=true:=by rcases hm' with h | h <;> omega
  obtain⟨hml,ho⟩:=hmm
  have hk:k<all.length:=by omega
  have he:=he hml
  rw[qEi hk,qCb] at he
  have hop:=qCp all 0 ho _ (qDw hk)
  have hus:=qEm k (gN all k)
  have hok:okN k (gN all k)=true:=qDb ho k (gN all k) (by rw[gN,List.getD_eq_getElem?_getD,List.getElem?_eq_getElem hk]; rfl)
  rw[hok] at hus
  have hus:=hus.1 rfl
  have b1:=wD hz (gN all k).a.toNat
  have b2:=wD hz (gN all k).b.toNat
  have hbd:=qFo hz (gN all k)
  have yes:∀ z,qAj out (gN all k)=z→FOk Tryz.prog Tryz.f99 Q (.rnd [0,0,1,0,1,1,1] (d+1)::[.blk 0,.at [1,1,1,1]]) ⟨[(15,.v (.int .i64 (IntKind.wrap .i64 ((k:Int)+1)))),(14,.v (.int .i64 (m:Int))),(13,.o 0),(5,.o 1)],[.rowc 190 1 m (.fn (cS all)),.rowc 3 1 (k+1) (.app k (.fn (cI out)) (.lit 1 [.v (.int .i64 z)]))]⟩:=fun z hz'=>by
   rw[qK _ (by omega)]
   refine FOk.cv (qQl all hb m hm' Q hq d (k+1) (out++[z]) (by omega) (by simp [hl]) (fun y hy=>?_) (fun _=>by rw[he,hz']) (fun h=>by omega)) ⟨HE.refl _,⟨rfl,rfl,rfl,qEr z hl⟩,trivial⟩
   rcases List.mem_append.1 hy with h | h
   ·exact hz y h
   ·rw[List.mem_singleton] at h; rw[h,← hz']; exact hbd
  by_cases h:(gN all k).op=1
  ·refine FOk.rnd (qC hm 60 ((dgc all out m k (d+1) _ _).mpr ⟨?_⟩))
   simp only[qD,forall_const]
   repeat' (first | refine And.intro ?_ ?_ | refine qG (fun _=>?_) (fun _=>?_))
   all_goals first
    | omega
    | exact zAg h
    | exact yes _ (by rw[zBx out h]; rfl)
  by_cases h:(gN all k).op=5
  ·refine FOk.rnd (qC hm 60 ((dgn all out m k (d+1) _ _).mpr ⟨?_⟩))
   simp only[qD,forall_const]
   repeat' (first | refine And.intro ?_ ?_ | refine qG (fun _=>?_) (fun _=>?_))
   all_goals first
    | omega
    | exact zAe h
    | exact yes _ (zCy out h)
  by_cases h:(gN all k).op=6
  ·refine FOk.rnd (qC hm 60 ((dga all out m k (d+1) _ _).mpr ⟨?_⟩))
   simp only[qD,forall_const]
   repeat' (first | refine And.intro ?_ ?_ | refine qG (fun _=>?_) (fun _=>?_))
   all_goals first
    | omega
    | exact qYk h
    | exact yes _ (zDj out h)
  by_cases h:(gN all k).op=7
  ·refine FOk.rnd (qC hm 60 ((dgm all out m k (d+1) _ _).mpr ⟨?_⟩))
   simp only[qD,forall_const]
   repeat' (first | refine And.intro ?_ ?_ | refine qG (fun _=>?_) (fun _=>?_))
   all_goals first
    | omega
    | exact zAa h
    | exact yes _ (by rw[zDe out h,zE _ (by simp only[gI]; omega)]; rfl)
  by_cases h:(gN all k).op=8
  ·refine FOk.rnd (qC hm 60 ((dgs all out m k (d+1) _ _).mpr ⟨?_⟩))
   simp only[qD,forall_const]
   repeat' (first | refine And.intro ?_ ?_ | refine qG (fun _=>?_) (fun _=>?_))
   all_goals first
    | omega
    | exact qYx h
    | exact yes _ (zDm out h)
  by_cases h:2≤(gN all k).op∧(gN all k).op≤4
  ·refine FOk.rnd (qC hm 60 ((dgq all out m k (d+1) _ _).mpr ⟨?_⟩))
   simp only[qD,forall_const]
   repeat' (first | refine And.intro ?_ ?_ | refine qG (fun _=>?_) (fun _=>?_))
   all_goals first
    | omega
    | exact qPa h
    | exact yes _ (by rw[zDg out h]; rfl)
  omega
theorem zWc:Tryz.f99.body.isSome=true:=by kernel_rfl
theorem zVs:Nat.ble [SV.x 0 []].length Tryz.f99.ntmps=true:=by kernel_rfl
theorem qXh(b:Bool)(all:List Nd)(hb:all.length≤4398046511104)(Q:SV→List HO→Prop)(hq:Q (.o 0) [.rowc 3 1 (qM all).length (.fn (cI (qM all)))]):qI Tryz.prog 99 [.x 0 []] [.ext b (.s false 7 all.length (cN all))] Q:=by
 refine qL Tryz.func99 zWc ?_ ?_
 ·exact zVs
 refine qC hm 60 ((dgS b all _ _).mpr ⟨?_⟩)
 refine⟨all,rfl,IsC.refl _ _ _,hb,qJ (fun ho=>?_) (fun ho=>?_)⟩
 ·exact FOk.loop (all.length+1) (by kernel_rfl) (FOk.cv (qQl all hb all.length (.inl ⟨rfl,ho⟩) Q hq all.length 0 [] (by omega) rfl (by simp) (fun _=>rfl) (fun _=>rfl)) ⟨HE.refl _,⟨rfl,rfl,rfl,fun k hk=>by omega⟩,trivial⟩)
 ·exact FOk.loop 1 (by kernel_rfl) (FOk.cv (qQl all hb 0 (.inr ⟨rfl,ho⟩) Q hq 0 0 [] rfl rfl (by simp) (fun _=>rfl) (fun _=>rfl)) ⟨⟨rfl,rfl,rfl,fun k hk=>by omega⟩,⟨rfl,rfl,rfl,fun k hk=>by omega⟩,trivial⟩)
noncomputable def zLd:List SV→List HO→Option ((SV→List HO→Prop)→Prop)
 | [.x 0 []],[.ext _ (.s false 7 n c)]=>some fun Q=>∃ l:List Nd,n=l.length∧IsC n 7 c (cN l)∧l.length≤4398046511104∧Q (.o 0) [.rowc 3 1 (qM l).length (.fn (cI (qM l)))]
 | _,_=>none
theorem zFl(args:List SV)(h:List HO)(tr:(SV→List HO→Prop)→Prop)(Q:SV→List HO→Prop)(hc:zLd args h=some tr)(ht:tr Q):qI Tryz.prog 99 args h Q:=by
 unfold zLd at hc
 split at hc
 ·rename_i b n c
  simp only[sI] at hc
  subst hc
  obtain⟨l,rfl,he,hb,hq⟩:=ht
  exact qI.ac (qXh b l hb Q hq) ⟨⟨rfl,rfl,rfl,rfl,he⟩,trivial⟩
 ·cases hc
end Go.Proofs.YtlmjdcbhpffanaaGreat
/- The queries of nodes. -/
namespace Go.Pl
open Go.Sx
theorem zHa{l:List (Int×Int×Int)}{k:Nat}(h:k<l.length):l.drop k=gQ l k::l.drop (k+1):=by
 rw[List.drop_eq_getElem_cons h,gQ,List.getD_eq_getElem?_getD,List.getElem?_eq_getElem h]; rfl
theorem qHr{p:Int×Int×Int→Bool}{l:List (Int×Int×Int)}{k:Nat}(h:k<l.length):zB p k (l.drop k)=if p (gQ l k) then(k:Int) else zB p (k+1) (l.drop (k+1)):=by
 rw[zHa h,zB]
end Go.Pl
namespace Go.Proofs.YtlmjdcbhpffanaaGreat
open Go.Sx Go.Pl
set_option linter.unusedVariables false
set_option maxRecDepth 100000
theorem ixR(b:Bool)(l:List (Int×Int×Int))(n k M:Nat)(x y z:Int)(K:List It→St→Prop)(R:SV→List HO→Prop):W (xwp Tryz.prog X K3 [] 60 (qO Tryz.f121 [] [⟨[0,1,0,1],[8,7,0,3],[]⟩]) [] (.at [0,0,1,0,1]::.rnd [0,0,1,0,1] M::[.blk 0,.at [1,1]]) ⟨[(8,.v (.int .i64 (k:Int))),(7,.v (.int .i64 (n:Int))),(0,.x 0 []),(3,.p 1 0)],[.ext b (.s false 3 n (cQ l)),.cells [.v (.int .i64 x),.v (.int .i64 y),.v (.int .i64 z)] 156]⟩ K R)=W (bif decide ((↑k:Int)<(↑n:Int)) then(∀ M:Mem,(0:Int)≤(↑k:Int)∧(↑k:Int)<(↑n:Int))∧(∀ M:Mem,k<n)∧bif decide ([x,y,z]=[(gQ l k).1,(gQ l k).2.1,(gQ l k).2.2]) then R (.v (qA (↑k:Int))) [] else K [.rnd [0,0,1,0,1] M,.blk 0,.at [1,1]] (St.mk [(8,.v (qA (IntKind.wrap .i64 ((↑k:Int)+(1:Int))))),(7,.v (qA (↑n:Int))),(0,.x 0 []),(3,.p 1 0)] [.ext b (.s false 3 n (cQ l)),.cells [.v (qA x),.v (qA y),.v (qA z)] 156]) else R (.v (qA (-1))) []):=by kernel_rfl
theorem ixS(b:Bool)(l:List (Int×Int×Int))(x y z:Int)(K:List It→St→Prop)(R:SV→List HO→Prop):W (xwp Tryz.prog X K3 [] 60 (qO Tryz.f121 [] [⟨[0,1,0,1],[8,7,0,3],[]⟩]) [] [.at []] ⟨qQ 0 [.x 0 [],.agg [.v (.int .i64 x),.v (.int .i64 y),.v (.int .i64 z)]],[.ext b (.s false 3 l.length (cQ l))]⟩ K R)=W (K [.at [0,1,0,1],.blk 0,.at [1,1]] (St.mk [(8,.v (qA 0)),(7,.v (qA (↑l.length:Int))),(0,.x 0 []),(3,.p 1 0)] [.ext b (.s false 3 l.length (cQ l)),.cells [.v (qA x),.v (qA y),.v (qA z)] 156])):=by kernel_rfl
theorem qYn(b:Bool)(all:List (Int×Int×Int))(x y z:Int)(hb:all.length≤4398046511104)(Q:SV→List HO→Prop)(hq:Q (.v (.int .i64 (zB (xB x y z) 0 all))) []):
  ∀(d k:Nat),k+d=all.length→zB (xB x y z) 0 all=zB (xB x y z) k (all.drop k) →
  FOk Tryz.prog Tryz.f121 Q (.rnd [0,0,1,0,1] (d+1)::[.blk 0,.at [1,1]]) ⟨[(8,.v (.int .i64 (k:Int))),(7,.v (.int .i64 (all.length:Int))),(0,.x 0 []),(3,.p 1 0)],[.ext b (.s false 3 all.length (cQ all)),.cells [.v (.int .i64 x),.v (.int .i64 y),.v (.int .i64 z)] 156]⟩
 | 0,k,hd,he=>by
  refine FOk.rnd (qC hm 60 ((ixR b all all.length k 0 x y z _ _).mpr ⟨?_⟩))
  simp only[qD]
  rw[if_neg (by omega)]
  rw[he,show k=all.length by omega,List.drop_length] at hq
  exact hq
 | d+1,k,hd,he=>by
  have hk:k<all.length:=by omega
  rw[qHr hk] at he
  refine FOk.rnd (qC hm 60 ((ixR b all all.length k (d+1) x y z _ _).mpr ⟨?_⟩))
  simp only[qD,forall_const]
  rw[if_pos (by omega)]
  repeat' (first | refine And.intro (by omega) ?_ | refine qG (fun h=>?_) (fun h=>?_))
  ·rw[he,if_pos (by rw[xB]; exact decide_eq_true h)] at hq; exact hq
  ·rw[qK _ (by omega)]
   exact qYn b all x y z hb Q hq d (k+1) (by omega) (by rw[he,if_neg (by rw[xB]; simpa using h)])
theorem bIx:Tryz.f121.body.isSome=true:=by kernel_rfl
theorem nIx(x y z:Int):Nat.ble [SV.x 0 [],.agg [.v (.int .i64 x),.v (.int .i64 y),.v (.int .i64 z)]].length Tryz.f121.ntmps=true:=by kernel_rfl
theorem zCg(b:Bool)(all:List (Int×Int×Int))(x y z:Int)(hb:all.length≤4398046511104)(Q:SV→List HO→Prop)(hq:Q (.v (.int .i64 (zB (xB x y z) 0 all))) []):qI Tryz.prog 121 [.x 0 [],.agg [.v (.int .i64 x),.v (.int .i64 y),.v (.int .i64 z)]] [.ext b (.s false 3 all.length (cQ all))] Q:=by
 refine qL Tryz.func121 bIx ?_ ?_
 ·exact nIx x y z
 refine qC hm 60 ((ixS b all x y z _ _).mpr ⟨?_⟩)
 exact FOk.loop (all.length+1) (by kernel_rfl) (qYn b all x y z hb Q hq all.length 0 (by omega) rfl)
noncomputable def gIx:List SV→List HO→Option ((SV→List HO→Prop)→Prop)
 | [.x 0 [],.agg [.v (.int .i64 x),.v (.int .i64 y),.v (.int .i64 z)]],[.ext _ (.s false 3 n c)]=>some fun Q=>∃ l:List (Int×Int×Int),n=l.length∧IsC n 3 c (cQ l)∧l.length≤4398046511104∧Q (.v (.int .i64 (zB (xB x y z) 0 l))) []
 | _,_=>none
theorem zMh(args:List SV)(h:List HO)(tr:(SV→List HO→Prop)→Prop)(Q:SV→List HO→Prop)(hc:gIx args h=some tr)(ht:tr Q):qI Tryz.prog 121 args h Q:=by
 unfold gIx at hc
 split at hc
 ·rename_i x y z b n c
  simp only[sI] at hc
  subst hc
  obtain⟨l,rfl,he,hb,hq⟩:=ht
  exact qI.ac (zCg b l x y z hb Q hq) ⟨⟨rfl,rfl,rfl,rfl,he⟩,trivial⟩
 ·cases hc
noncomputable def K6:Con Tryz.prog:=((K3.add 98 zKr zGc).add 99 zLd zFl).add 121 gIx zMh
end Go.Proofs.YtlmjdcbhpffanaaGreat
/- All queries. -/
namespace Go.Pl
open Go.Sx
theorem qZk(a b c:Int)(l:List (Int×Int×Int)):(0≤zB (xB a b c) 0 l)↔(a,b,c)∈l:=by
 have h1:=jC (xB a b c) l 0
 rw[zBc] at h1
 by_cases h:(a,b,c)∈l
 ·rw[decide_eq_true h,decide_eq_true_eq] at h1; exact⟨fun _=>h,fun _=>h1⟩
 ·rw[decide_eq_false h,decide_eq_false_iff_not] at h1; exact⟨fun hh=>absurd hh h1,fun hh=>absurd hh h⟩
theorem zEc(out:List Qy){x:Nd}(r:List Nd)(h:¬ (2≤x.op∧x.op≤4)):qsN out (x::r)=qsN out r:=by
 rw[qLu,qQi,decide_eq_false h]; rfl
theorem qRf(out:List Qy){x:Nd}(r:List Nd)(h:(x.op,x.a,x.b)∈out):qsN out (x::r)=qsN out r:=by
 rw[qLu,decide_eq_true h]; simp
theorem qYu(out:List Qy){x:Nd}(r:List Nd)(h:2≤x.op∧x.op≤4)(h2:(x.op,x.a,x.b)∉out):qsN out (x::r)=qsN (out++[(x.op,x.a,x.b)]) r:=by
 rw[qLu,qQi,decide_eq_true h,decide_eq_false h2]; rfl
end Go.Pl
namespace Go.Proofs.YtlmjdcbhpffanaaGreat
open Go.Sx Go.Pl
set_option linter.unusedVariables false
set_option maxRecDepth 100000
theorem qsR(b:Bool)(l:List Nd)(out:List (Int×Int×Int))(n k m M:Nat)(K:List It→St→Prop)(R:SV→List HO→Prop):W (xwp Tryz.prog X K6 [(119,[]),(118,[])] 60 (qO Tryz.f86 [] [⟨[0,1,0,1,1],[12,11,10,3],[(3,156,3)]⟩]) [] (.at [0,0,1,0,1,1]::.rnd [0,0,1,0,1,1] M::[.blk 0,.at [1,1,1]]) ⟨[(12,.v (.int .i64 (k:Int))),(11,.v (.int .i64 (n:Int))),(10,.x 0 []),(3,.o 1)],[.ext b (.s false 7 n (cN l)),.rowc 156 3 m (.fn (cQ out))]⟩ K R)=W (bif decide ((↑k:Int)<(↑n:Int)) then(∀ M:Mem,(0:Int)≤(↑k:Int)∧(↑k:Int)<(↑n:Int))∧(∀ M:Mem,k<n)∧(∀ M:Mem,0+7≤7)∧bif(gN l k).1==(1:Int) then(∀ M:Mem,3≤3)∧K [.rnd [0,0,1,0,1,1] M,.blk 0,.at [1,1,1]] (St.mk [(12,.v (qA (IntKind.wrap .i64 ((↑k:Int)+(1:Int))))),(11,.v (qA (↑n:Int))),(10,.x 0 []),(3,.o 1)] [.ext b (.s false 7 n (cN l)),.rowc 156 3 m (.fn (cQ out))]) else bif(gN l k).1==(2:Int) then(∀ M:Mem,0+3≤3)∧∃(l_1:List (Int×Int×Int)),m=List.length l_1∧IsC m 3 (cQ out) (cQ l_1)∧List.length l_1≤4398046511104∧bif !decide ((0:Int)≤zB (xB (gN l k).1 (gN l k).2 (gN l k).3) 0 l_1) then(∀ M:Mem,(m+1)*24≤140737488355328∧m+1≤140737488355328)∧K [.rnd [0,0,1,0,1,1] M,.blk 0,.at [1,1,1]] (St.mk [(12,.v (qA (IntKind.wrap .i64 ((↑k:Int)+(1:Int))))),(11,.v (qA (↑n:Int))),(10,.x 0 []),(3,.o 1)] [.ext b (.s false 7 n (cN l)),.rowc 156 3 (m+1) (.app m (.fn (cQ out)) (.lit 3 [.v (qA (gN l k).1),.v (qA (gN l k).2),.v (qA (gN l k).3)]))]) else K [.rnd [0,0,1,0,1,1] M,.blk 0,.at [1,1,1]] (St.mk [(12,.v (qA (IntKind.wrap .i64 ((↑k:Int)+(1:Int))))),(11,.v (qA (↑n:Int))),(10,.x 0 []),(3,.o 1)] [.ext b (.s false 7 n (cN l)),.rowc 156 3 m (.fn (cQ out))]) else bif(gN l k).1==(3:Int) then(∀ M:Mem,0+3≤3)∧∃(l_1:List (Int×Int×Int)),m=List.length l_1∧IsC m 3 (cQ out) (cQ l_1)∧List.length l_1≤4398046511104∧bif !decide ((0:Int)≤zB (xB (gN l k).1 (gN l k).2 (gN l k).3) 0 l_1) then(∀ M:Mem,(m+1)*24≤140737488355328∧m+1≤140737488355328)∧K [.rnd [0,0,1,0,1,1] M,.blk 0,.at [1,1,1]] (St.mk [(12,.v (qA (IntKind.wrap .i64 ((↑k:Int)+(1:Int))))),(11,.v (qA (↑n:Int))),(10,.x 0 []),(3,.o 1)] [.ext b (.s false 7 n (cN l)),.rowc 156 3 (m+1) (.app m (.fn (cQ out)) (.lit 3 [.v (qA (gN l k).1),.v (qA (gN l k).2),.v (qA (gN l k).3)]))]) else K [.rnd [0,0,1,0,1,1] M,.blk 0,.at [1,1,1]] (St.mk [(12,.v (qA (IntKind.wrap .i64 ((↑k:Int)+(1:Int))))),(11,.v (qA (↑n:Int))),(10,.x 0 []),(3,.o 1)] [.ext b (.s false 7 n (cN l)),.rowc 156 3 m (.fn (cQ out))]) else bif(gN l k).1==(4:Int) then(∀ M:Mem,0+3≤3)∧∃(l_1:List (Int×Int×Int)),m=List.length l_1∧IsC m 3 (cQ out) (cQ l_1)∧List.length l_1≤4398046511104∧bif !decide ((0:Int)≤zB (xB (gN l k).1 (gN l k).2 (gN l k).3) 0 l_1) then(∀ M:Mem,(m+1)*24≤140737488355328∧m+1≤140737488355328)∧K [.rnd [0,0,1,0,1,1] M,.blk 0,.at [1,1,1]] (St.mk [(12,.v (qA (IntKind.wrap .i64 ((↑k:Int)+(1:Int))))),(11,.v (qA (↑n:Int))),(10,.x 0 []),(3,.o 1)] [.ext b (.s false 7 n (cN l)),.rowc 156 3 (m+1) (.app m (.fn (cQ out)) (.lit 3 [.v (qA (gN l k).1),.v (qA (gN l k).2),.v (qA (gN l k).3)]))]) else K [.rnd [0,0,1,0,1,1] M,.blk 0,.at [1,1,1]] (St.mk [(12,.v (qA (IntKind.wrap .i64 ((↑k:Int)+(1:Int))))),(11,.v (qA (↑n:Int))),(10,.x 0 []),(3,.o 1)] [.ext b (.s false 7 n (cN l)),.rowc 156 3 m (.fn (cQ out))]) else bif(gN l k).1==(5:Int) then(∀ M:Mem,3≤3)∧K [.rnd [0,0,1,0,1,1] M,.blk 0,.at [1,1,1]] (St.mk [(12,.v (qA (IntKind.wrap .i64 ((↑k:Int)+(1:Int))))),(11,.v (qA (↑n:Int))),(10,.x 0 []),(3,.o 1)] [.ext b (.s false 7 n (cN l)),.rowc 156 3 m (.fn (cQ out))]) else bif(gN l k).1==(6:Int) then(∀ M:Mem,3≤3)∧K [.rnd [0,0,1,0,1,1] M,.blk 0,.at [1,1,1]] (St.mk [(12,.v (qA (IntKind.wrap .i64 ((↑k:Int)+(1:Int))))),(11,.v (qA (↑n:Int))),(10,.x 0 []),(3,.o 1)] [.ext b (.s false 7 n (cN l)),.rowc 156 3 m (.fn (cQ out))]) else bif(gN l k).1==(7:Int) then(∀ M:Mem,3≤3)∧K [.rnd [0,0,1,0,1,1] M,.blk 0,.at [1,1,1]] (St.mk [(12,.v (qA (IntKind.wrap .i64 ((↑k:Int)+(1:Int))))),(11,.v (qA (↑n:Int))),(10,.x 0 []),(3,.o 1)] [.ext b (.s false 7 n (cN l)),.rowc 156 3 m (.fn (cQ out))]) else bif(gN l k).1==(8:Int) then(∀ M:Mem,3≤3)∧K [.rnd [0,0,1,0,1,1] M,.blk 0,.at [1,1,1]] (St.mk [(12,.v (qA (IntKind.wrap .i64 ((↑k:Int)+(1:Int))))),(11,.v (qA (↑n:Int))),(10,.x 0 []),(3,.o 1)] [.ext b (.s false 7 n (cN l)),.rowc 156 3 m (.fn (cQ out))]) else(∀ M:Mem,3≤3)∧K [.rnd [0,0,1,0,1,1] M,.blk 0,.at [1,1,1]] (St.mk [(12,.v (qA (IntKind.wrap .i64 ((↑k:Int)+(1:Int))))),(11,.v (qA (↑n:Int))),(10,.x 0 []),(3,.o 1)] [.ext b (.s false 7 n (cN l)),.rowc 156 3 m (.fn (cQ out))]) else R (.o 0) [.rowc 156 3 m (.fn (cQ out))]):=by kernel_rfl
theorem qsS(b:Bool)(l:List Nd)(K:List It→St→Prop)(R:SV→List HO→Prop):W (xwp Tryz.prog X K6 [(119,[]),(118,[])] 60 (qO Tryz.f86 [] [⟨[0,1,0,1,1],[12,11,10,3],[(3,156,3)]⟩]) [] [.at []] ⟨qQ 0 [.x 0 []],[.ext b (.s false 7 l.length (cN l))]⟩ K R)=W (K [.at [0,1,0,1,1],.blk 0,.at [1,1,1]] (St.mk [(12,.v (qA 0)),(11,.v (qA (↑l.length:Int))),(10,.x 0 []),(3,.o 1)] [.ext b (.s false 7 l.length (cN l)),.rowc 156 3 0 (.lit 1 [])])):=by kernel_rfl
theorem qSc(b:Bool)(all:List Nd)(hb:all.length≤4000000000000)(Q:SV→List HO→Prop)(hq:Q (.o 0) [.rowc 156 3 (qsN [] all).length (.fn (cQ (qsN [] all)))]):
  ∀(d k:Nat) (out:List (Int×Int×Int)),k+d=all.length→out.length≤k→qsN [] all=qsN out (all.drop k) →
  FOk Tryz.prog Tryz.f86 Q (.rnd [0,0,1,0,1,1] (d+1)::[.blk 0,.at [1,1,1]]) ⟨[(12,.v (.int .i64 (k:Int))),(11,.v (.int .i64 (all.length:Int))),(10,.x 0 []),(3,.o 1)],[.ext b (.s false 7 all.length (cN all)),.rowc 156 3 out.length (.fn (cQ out))]⟩
 | 0,k,out,hd,hl,he=>by
  refine FOk.rnd (qC hm 60 ((qsR b all out all.length k out.length 0 _ _).mpr ⟨?_⟩))
  simp only[qD]
  rw[if_neg (by omega)]
  rw[he,show k=all.length by omega,List.drop_length] at hq
  exact hq
 | d+1,k,out,hd,hl,he=>by
  have hk:k<all.length:=by omega
  rw[qEi hk] at he
  have same:qsN out (gN all k::all.drop (k+1))=qsN out (all.drop (k+1))→FOk Tryz.prog Tryz.f86 Q (.rnd [0,0,1,0,1,1] (d+1)::[.blk 0,.at [1,1,1]]) ⟨[(12,.v (.int .i64 (IntKind.wrap .i64 ((k:Int)+1)))),(11,.v (.int .i64 (all.length:Int))),(10,.x 0 []),(3,.o 1)],[.ext b (.s false 7 all.length (cN all)),.rowc 156 3 out.length (.fn (cQ out))]⟩:=fun h=>by
   rw[qK _ (by omega)]
   exact qSc b all hb Q hq d (k+1) out (by omega) (by omega) (by rw[he,h])
  have new:∀ o,o=(gN all k).op→2≤o∧o≤4→(o,(gN all k).a,(gN all k).b)∉out→FOk Tryz.prog Tryz.f86 Q (.rnd [0,0,1,0,1,1] (d+1)::[.blk 0,.at [1,1,1]]) ⟨[(12,.v (.int .i64 (IntKind.wrap .i64 ((k:Int)+1)))),(11,.v (.int .i64 (all.length:Int))),(10,.x 0 []),(3,.o 1)],[.ext b (.s false 7 all.length (cN all)),.rowc 156 3 (out.length+1) (.app out.length (.fn (cQ out)) (.lit 3 [.v (.int .i64 o),.v (.int .i64 (gN all k).a),.v (.int .i64 (gN all k).b)]))]⟩:=fun o ho h h2=>by
   rw[qK _ (by omega)]
   have next:=qSc b all hb Q hq d (k+1) (out++[(o,(gN all k).a,(gN all k).b)]) (by omega) (by simp; omega) (by rw[he,qYu out _ (by omega) (by rw[← ho]; exact h2),ho])
   rw[List.length_append,List.length_singleton] at next
   exact FOk.cv next ⟨HE.refl _,⟨rfl,rfl,rfl,zAi (o,(gN all k).a,(gN all k).b) rfl⟩,trivial⟩
  refine FOk.rnd (qC hm 60 ((qsR b all out all.length k out.length (d+1) _ _).mpr ⟨?_⟩))
  simp only[qD,zC,forall_const,qV,qZk]
  repeat' (first | refine And.intro ?_ ?_ | refine qG (fun _=>?_) (fun _=>?_) | refine Exists.intro out ?_)
  all_goals first
   | omega
   | exact IsC.refl _ _ _
   | exact same (zEc out _ (by omega))
   | (refine same (qRf out _ ?_); assumption)
   | (refine same (qRf out _ ?_); rename_i h1 h2; rw[h1]; exact h2)
   | (refine new _ ?_ ?_ ?_ <;> first | omega | assumption)
theorem bQs:Tryz.f86.body.isSome=true:=by kernel_rfl
theorem nQs:Nat.ble [SV.x 0 []].length Tryz.f86.ntmps=true:=by kernel_rfl
theorem qWr(b:Bool)(all:List Nd)(hb:all.length≤4000000000000)(Q:SV→List HO→Prop)(hq:Q (.o 0) [.rowc 156 3 (qsN [] all).length (.fn (cQ (qsN [] all)))]):qI Tryz.prog 86 [.x 0 []] [.ext b (.s false 7 all.length (cN all))] Q:=by
 refine qL Tryz.func86 bQs ?_ ?_
 ·exact nQs
 refine qC hm 60 ((qsS b all _ _).mpr ⟨?_⟩)
 exact FOk.loop (all.length+1) (by kernel_rfl) (FOk.cv (qSc b all hb Q hq all.length 0 [] (by omega) (Nat.le_refl _) rfl) ⟨HE.refl _,⟨rfl,rfl,rfl,fun k hk=>by omega⟩,trivial⟩)
noncomputable def gQs:List SV→List HO→Option ((SV→List HO→Prop)→Prop)
 | [.x 0 []],[.ext _ (.s false 7 n c)]=>some fun Q=>∃ l:List Nd,n=l.length∧IsC n 7 c (cN l)∧l.length≤4000000000000∧Q (.o 0) [.rowc 156 3 (qsN [] l).length (.fn (cQ (qsN [] l)))]
 | _,_=>none
theorem zMe(args:List SV)(h:List HO)(tr:(SV→List HO→Prop)→Prop)(Q:SV→List HO→Prop)(hc:gQs args h=some tr)(ht:tr Q):qI Tryz.prog 86 args h Q:=by
 unfold gQs at hc
 split at hc
 ·rename_i b n c
  simp only[sI] at hc
  subst hc
  obtain⟨l,rfl,he,hb,hq⟩:=ht
  exact qI.ac (qWr b l hb Q hq) ⟨⟨rfl,rfl,rfl,rfl,he⟩,trivial⟩
 ·cases hc
end Go.Proofs.YtlmjdcbhpffanaaGreat
/- The table of contracts so far. -/
namespace Go.Proofs.YtlmjdcbhpffanaaGreat
open Go.Sx Go.Pl
set_option linter.unusedVariables false
noncomputable def zJs:List SV→List HO→Option ((SV→List HO→Prop)→Prop)
 | [.x 0 []],[.ext _ (.s false 7 n c)]=>some fun Q=>∃ l:List Nd,n=l.length∧IsC n 7 c (cN l)∧l.length≤4000000000000∧Q (.v (.bool (zV 0 l))) []
 | _,_=>none
theorem zHe(args:List SV)(h:List HO)(tr:(SV→List HO→Prop)→Prop)(Q:SV→List HO→Prop)(hc:zJs args h=some tr)(ht:tr Q):qI Tryz.prog 113 args h Q:=by
 unfold zJs at hc
 split at hc
 ·rename_i b n c
  simp only[sI] at hc
  subst hc
  obtain⟨l,rfl,he,hb,hq⟩:=ht
  exact qI.ac (qI.mono (qWl b l (by omega)) fun r h' hh=>by rw[hh.1,hh.2]; exact hq) ⟨⟨rfl,rfl,rfl,rfl,he⟩,trivial⟩
 ·cases hc
noncomputable def K8:Con Tryz.prog:=(K6.add 86 gQs zMe).add 113 zJs zHe
end Go.Proofs.YtlmjdcbhpffanaaGreat
