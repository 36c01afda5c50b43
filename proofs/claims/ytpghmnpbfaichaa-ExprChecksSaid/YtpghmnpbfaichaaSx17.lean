/- Calls by their contracts. -/
import Derived.Test.YtpghmnpbfaichaaSx16
namespace Go.Sx
open Go.RowKit

def ndIt (B : Code) : It → Bool
  | .one p _ _ i => match sub B p with
    | .region _ ops _ => ndOf ops i
    | _ => true
  | _ => false
/-- The memory from a block on. -/
def memFrom (b0 : Nat) (w : World) : Mem := fun b => if b < b0 then none else w.heap[b]?

section
variable {P : Program} {X : Ext P} {B : Code} {n : Nat} {F : Mem → Prop} {w0 : World} {fin : Exit → Act → World → Prop}

theorem guard_ops {ops : Array Oper} {st st1 : St} {e : Env} {a : Act} {w : World} {D D1 : List Dec} {o : Oper} {sd : List Side} (S : SatH F w0 st.heap e w) (T : TSat n st.heap.length st.tm e a)
    (hg : xguard ops st D o = some (true, st1, sd, D1)) (hsd : hold F sd) :
    Region.wanted o (yielded ops a.tmps) = true ∧ SatH F w0 st1.heap e w ∧ TSat n st1.heap.length st1.tm e a := by
  obtain ⟨g1, g2, g3⟩ := xguard_sound T hg (fun x hx => hsd x hx _ S.fact)
  exact ⟨g1, by rw [g2]; exact S, by rw [g2]; exact g3⟩

theorem callee_exec {st1 : St} {e : Env} {a : Act} {w : World} {o : Oper} {c : Call} {f : FuncId} {args : List SV} (T : TSat n st1.heap.length st1.tm e a) (ho : o.op = .call c)
    (hc : calleeOf P st1 c = some (f, args)) (hb : hasBody P f = true) : (execOp a.eval o).run P w = .ok (.enter f (denL e args).toArray) w := by
  have hcf : ∀ as, (callFunc f as).run P w = .ok (.enter f as) w := by
    intro as
    unfold hasBody at hb
    split at hb
    · rename_i fn hfn
      rw [Bool.and_eq_true] at hb
      have h1 : (fn.name == "runtime.NumGoroutine") = false := by simpa using hb.2
      have h2 : fn.body.isNone = false := by
        cases hbd : fn.body with
        | none => rw [hbd] at hb; cases hb.1
        | some c => rfl
      unfold callFunc
      rw [Sem.run_bind, run_program, Result.andThen_ok]
      simp only [hfn, h1, h2, Bool.false_eq_true, if_false]
      rfl
    · cases hb
  have hme : ∀ (t : TypeId) (v : Value) (name : String) (as : List SV) (x : Operand), c.callee = .invoke x name → a.eval x = .iface t v → c.args.map a.eval = (denL e as).toArray → calleeM P t v name as = some (f, args) →
      (execOp a.eval o).run P w = .ok (.enter f (denL e args).toArray) w := by
    intro t v name as x hcal hx has hm
    unfold calleeM at hm
    split at hm
    · rename_i f1 r hr
      simp only [Option.some.injEq, Prod.mk.injEq] at hm
      obtain ⟨rfl, rfl⟩ := hm
      have hr' := prun_sound hr w
      simp [execOp, ho, resolve, hcal, has, invoke, hx, callMethod, hr', hcf, denL, den]
    · cases hm
  unfold calleeOf at hc
  split at hc
  · rename_i x name hcal
    split at hc
    · rename_i t y as hx has
      obtain ⟨e1, _⟩ := evList_sound T _ has
      have e2 : c.args.map a.eval = (denL e as).toArray := by apply Array.ext'; rw [Array.toList_map, e1]
      split at hc
      · rename_i v hv
        exact hme t v name as x hcal (by rw [(evO_sound T hx).1, den, plain_sound e y hv]) e2 hc
      · cases hc
    · rename_i t v as hx has
      obtain ⟨e1, _⟩ := evList_sound T _ has
      have e2 : c.args.map a.eval = (denL e as).toArray := by apply Array.ext'; rw [Array.toList_map, e1]
      exact hme t v name as x hcal (evO_sound T hx).1 e2 hc
    · cases hc
  · rename_i x hcal
    split at hc
    · rename_i f1 first cap as hx has
      simp only [Option.some.injEq, Prod.mk.injEq] at hc
      obtain ⟨rfl, rfl⟩ := hc
      obtain ⟨e1, _⟩ := evList_sound T _ has
      have e2 : c.args.map a.eval = (denL e as).toArray := by apply Array.ext'; rw [Array.toList_map, e1]
      simp [execOp, ho, resolve, hcal, e2, invoke, Deferred.ofValue, (evO_sound T hx).1, den, hcf, denL_append]
    · rename_i f1 first cap as hx has
      simp only [Option.some.injEq, Prod.mk.injEq] at hc
      obtain ⟨rfl, rfl⟩ := hc
      obtain ⟨e1, _⟩ := evList_sound T _ has
      have e2 : c.args.map a.eval = (denL e as).toArray := by apply Array.ext'; rw [Array.toList_map, e1]
      simp [execOp, ho, resolve, hcal, e2, invoke, Deferred.ofValue, (evO_sound T hx).1, den, hcf, denL_append, denL_mapv]
    · cases hc
  · cases hc

theorem Ok.callG {it it' : It} {k : List It} {st st1 : St} {D : List Dec} {f : FuncId} {args : List SV} {sd : List Side} {dst : Option Nat} (hx : xcallAt P B it st D = some (f, args, st1, sd, dst, it')) (hsd : hold F sd)
    (hc : ∀ e a w, SatH F w0 st1.heap e w → TSat n st1.heap.length st1.tm e a → Calls P f (denL e args).toArray w (fun E w' => ∃ v, E = .returned v ∧ (ndIt B it = true → Grow w w') ∧ post P B fin (it' :: k) .normal (a.put dst v) w')) :
    Ok P B n F w0 fin (it :: k) st := by
  intro e a w S T
  unfold xcallAt at hx
  split at hx
  · rename_i p i
    split at hx
    · rename_i id ops dr hs
      split at hx
      · rename_i o ho
        split at hx
        · rename_i st2 sd2 D2 hg
          split at hx
          · rename_i c hop
            split at hx
            · rename_i f1 args1 hcal
              cases hb : hasBody P f1 with
              | false => rw [hb] at hx; cases hx
              | true =>
                rw [hb] at hx
                simp only [cond_true, Option.some.injEq, Prod.mk.injEq] at hx
                obtain ⟨rfl, rfl, rfl, rfl, rfl, rfl⟩ := hx
                obtain ⟨g1, S1, T1⟩ := guard_ops S T hg hsd
                have hcc := hc e a w S1 T1
                simp only [post, hs] at hcc ⊢
                have hlt : i < ops.toList.length := by
                  have := (Array.getElem?_eq_some_iff.1 ho).1
                  simpa using this
                have hd : ops.toList.drop i = o :: ops.toList.drop (i + 1) := by
                  rw [List.drop_eq_getElem_cons hlt]
                  congr 1
                  have h2 := (Array.getElem?_eq_some_iff.1 ho).2
                  simpa using h2
                rw [hd]
                refine wpList_step fun K hK => ?_
                rw [if_pos g1]
                unfold Oper.wp
                rw [callee_exec T1 hop hcal hb]
                simp only [Oper.upon]
                refine hcc.mono fun E w' hE => ?_
                obtain ⟨v, rfl, _, h3⟩ := hE
                exact hK _ _ h3
            · cases hx
          · cases hx
        · cases hx
      · cases hx
    · cases hx
  · rename_i p fu l i
    split at hx
    · rename_i id ops dr hs
      split at hx
      · rename_i o ho
        split at hx
        · rename_i st2 sd2 D2 hg
          split at hx
          · rename_i c hop
            split at hx
            · rename_i f1 args1 hcal
              cases hb : hasBody P f1 with
              | false => rw [hb] at hx; cases hx
              | true =>
                rw [hb] at hx
                simp only [cond_true, Option.some.injEq, Prod.mk.injEq] at hx
                obtain ⟨rfl, rfl, rfl, rfl, rfl, rfl⟩ := hx
                obtain ⟨g1, S1, T1⟩ := guard_ops S T hg hsd
                have hcc := hc e a w S1 T1
                simp only [post, hs, ndIt] at hcc ⊢
                unfold wpOp
                simp only [ho, g1, if_true]
                refine .inl ?_
                unfold Oper.wp
                rw [callee_exec T1 hop hcal hb]
                simp only [Oper.upon]
                refine hcc.mono fun E w' hE => ?_
                obtain ⟨v, rfl, h2, h3⟩ := hE
                exact ⟨h2, h3⟩
            · cases hx
          · cases hx
        · cases hx
      · cases hx
    · cases hx
  · cases hx

theorem Below.growTo {w w' : World} (h : Below w.heap.size w w') : Grow w w' := fun b hb => h.block b hb

/-- What a world that has only grown keeps. -/
theorem SatH.grow (hF : Mono F) {h : List HO} {e : Env} {w w' : World} (S : SatH F w0 h e w) (hb : Below w.heap.size w w') : SatH F w0 h e w' :=
  ⟨hb.os.trans S.os, hb.tape.trans S.tape, hb.output.trans S.output, (mem_grow hF w w' (Below.growTo hb) S.q).sat, S.ws, S.one, (mem_grow hF w w' (Below.growTo hb) S.q).fact⟩

theorem mem_from_le {h : List HO} {e : Env} {w w' : World} (S : SatH F w0 h e w) : (memFrom w.heap.size w').le (mem w' e h) := by
  intro b o hb
  unfold memFrom at hb
  split at hb
  · cases hb
  · rename_i hge
    unfold mem
    rw [if_neg, hb]
    rintro ⟨i, ho, hi, hown⟩
    have := HO.own_lt (S.sat i ho hi) hown
    omega

/-- A call whose result is known, of memory that was there nothing turned. -/
theorem Ok.callP (hF : Mono F) {it it' : It} {k : List It} {st st1 st2 : St} {D : List Dec} {f : FuncId} {args : List SV} {sd : List Side} {dst : Option Nat} (hx : xcallAt P B it st D = some (f, args, st1, sd, dst, it')) (hsd : hold F sd)
    (rs : SV) (r : Value) (hrs : plain rs = some r) (hput : put1 n st1 dst rs = some st2)
    (hc : ∀ e w, SatH F w0 st1.heap e w → Calls P f (denL e args).toArray w (fun E w' => E = .returned r ∧ Below w.heap.size w w'))
    (h : Ok P B n F w0 fin (it' :: k) st2) : Ok P B n F w0 fin (it :: k) st := by
  refine Ok.callG hx hsd fun e a w S T => (hc e w S).mono fun E w' hE => ?_
  obtain ⟨rfl, hb⟩ := hE
  refine ⟨r, rfl, fun _ => Below.growTo hb, ?_⟩
  obtain ⟨p1, p2⟩ := put1_sound (v := r) T (agree.refl _ e) (Nat.le_refl _) hput (plain_sound e rs hrs) (plain_ws _ rs hrs)
  exact h e _ w' (by rw [p2]; exact S.grow hF hb) (by rw [p2]; exact p1)

/-- A call whose result is one of many, with facts on new memory. -/
theorem Ok.callF (hF : Mono F) {α : Type} (G : α → Mem → Prop) (hG : ∀ x, Mono (G x)) (φ : α → Prop) {it it' : It} {k : List It} {st st1 : St} {st2 : α → St} {D : List Dec} {f : FuncId} {args : List SV} {sd : List Side} {dst : Option Nat}
    (hx : xcallAt P B it st D = some (f, args, st1, sd, dst, it')) (hsd : hold F sd)
    (rs : α → SV) (r : α → Value) (hrs : ∀ x, plain (rs x) = some (r x)) (hput : ∀ x, put1 n st1 dst (rs x) = some (st2 x))
    (hc : ∀ e w, SatH F w0 st1.heap e w → Calls P f (denL e args).toArray w (fun E w' => ∃ x, φ x ∧ E = .returned (r x) ∧ Below w.heap.size w w' ∧ G x (memFrom w.heap.size w')))
    (h : ∀ x, φ x → Ok P B n (fun M => F M ∧ G x M) w0 fin (it' :: k) (st2 x)) : Ok P B n F w0 fin (it :: k) st := by
  refine Ok.callG hx hsd fun e a w S T => (hc e w S).mono fun E w' hE => ?_
  obtain ⟨x, hφ, rfl, hb, hg⟩ := hE
  refine ⟨r x, rfl, fun _ => Below.growTo hb, ?_⟩
  obtain ⟨p1, p2⟩ := put1_sound (v := r x) T (agree.refl _ e) (Nat.le_refl _) (hput x) (plain_sound e (rs x) (hrs x)) (plain_ws _ (rs x) (hrs x))
  have S' := S.grow hF hb
  refine h x hφ e _ w' ?_ (by rw [p2]; exact p1)
  rw [p2]
  exact ⟨S'.os, S'.tape, S'.output, S'.sat, S'.ws, S'.one, S'.fact, hG x _ _ (mem_from_le S) hg⟩

/-- A call that hands back a new row. -/
theorem Ok.callR (hF : Mono F) {α : Type} (φ : α → Prop) (T0 sz : Nat) (nn : α → Nat) (cs : α → List Value) {it it' : It} {k : List It} {st st1 : St} {st2 : α → St} {D : List Dec} {f : FuncId} {args : List SV} {sd : List Side} {dst : Option Nat}
    (hx : xcallAt P B it st D = some (f, args, st1, sd, dst, it')) (hsd : hold F sd)
    (rs : α → SV) (hws : ∀ x, ws (st1.heap.length + 1) (rs x)) (hput : ∀ x, put1 n ⟨st1.tm, st1.heap ++ [.row T0 sz (nn x) ((cs x).map SV.v)]⟩ dst (rs x) = some (st2 x))
    (hc : ∀ e w, SatH F w0 st1.heap e w → Calls P f (denL e args).toArray w (fun E w' => ∃ x v, φ x ∧ E = .returned (den (e.setR st1.heap.length v) (rs x)) ∧ Below w.heap.size w w' ∧ w'.ownsRow w.heap.size T0 sz v (nn x) (cs x) ∧ ∀ u ∈ cs x, u.oneCell' = true))
    (h : ∀ x, φ x → Ok P B n F w0 fin (it' :: k) (st2 x)) : Ok P B n F w0 fin (it :: k) st := by
  refine Ok.callG hx hsd fun e a w S T => (hc e w S).mono fun E w' hE => ?_
  obtain ⟨x, v, hφ, rfl, hb, hr, h1⟩ := hE
  refine ⟨_, rfl, fun _ => Below.growTo hb, ?_⟩
  have hag := agree_setR e st1.heap.length v
  obtain ⟨p1, p2⟩ := put1_sound (st := ⟨st1.tm, st1.heap ++ [.row T0 sz (nn x) ((cs x).map SV.v)]⟩) (hl' := st1.heap.length + 1) T hag (by omega) (hput x) rfl (hws x)
  have S' := S.newRow hF (w' := w') T0 sz (nn x) ((cs x).map SV.v) v (wsL_mapv _ _) (by
      rw [denL_mapv]
      obtain ⟨q1, q2⟩ := hr
      refine ⟨q1, ?_⟩
      rcases q2 with q2 | ⟨g, cap, cur, hv, _, rest⟩
      · exact .inl q2
      · exact .inr ⟨g, cap, cur, hv, Nat.zero_le _, rest⟩) (by rw [denL_mapv]; exact h1) (fun b hb' => (hr.lt b hb').1)
      ⟨hb.os, hb.tape, hb.output, hb.size, fun k hk _ => hb.block k hk⟩
  exact h x hφ _ _ w' (by rw [p2]; exact S') (by rw [p2]; simpa using p1)
end
end Go.Sx
