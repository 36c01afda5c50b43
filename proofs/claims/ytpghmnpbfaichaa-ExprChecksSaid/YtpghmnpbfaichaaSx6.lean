/- The reckoner of the operations that write nothing: its truth. -/
import Derived.Test.YtpghmnpbfaichaaSx5
namespace Go.Sx
open Go.RowKit

section
variable {P : Program} {X : Ext P} {F : Mem → Prop} {tm : List (Nat × SV)} {n : Nat} {h : List HO} {e : Env} {a : Act} {w : World} {D D' : List Dec} {s : SV} {sd : List Side}

/-- What is to be shown of each. -/
def Good (P : Program) (h : List HO) (e : Env) (a : Act) (w : World) (o : Oper) (s : SV) : Prop :=
  (execOp a.eval o).run P w = .ok (.value (den e s)) w ∧ ws h.length s

theorem one_sound (T : TSat n h.length tm e a) {x : Operand} (hq : one (evO tm x) D = some (s, sd, D')) : a.eval x = den e s ∧ ws h.length s := by
  unfold one at hq
  split at hq
  · rename_i s0 hs
    simp only [Option.some.injEq, Prod.mk.injEq] at hq
    obtain ⟨rfl, rfl, rfl⟩ := hq
    exact evO_sound T hs
  · cases hq

theorem xpick_sound (T : TSat n h.length tm e a) {o : Oper} {c x y : Operand} (ho : o.op = .pick c x y) (hq : xpick tm D c x y = some (s, sd, D')) {M : Mem} (hsd : ∀ x ∈ sd, x M) : Good P h e a w o s := by
  have fin : ∀ (z : Bool) (u : Operand), a.eval c = .bool z → u = (if z then x else y) → a.eval u = den e s ∧ ws h.length s → Good P h e a w o s := by
    intro z u hz hu hr
    refine ⟨?_, hr.2⟩
    simp only [execOp, ho, hz, asBool, Sem.run_bind, Sem.run_pure, Result.andThen_ok]
    rw [← hr.1, hu]
    cases z <;> rfl
  unfold xpick at hq
  split at hq
  · rename_i hc
    exact fin true x (by rw [(evO_sound T hc).1]; rfl) rfl (one_sound T hq)
  · rename_i hc
    exact fin false y (by rw [(evO_sound T hc).1]; rfl) rfl (one_sound T hq)
  · rename_i z hc
    have hz : a.eval c = .bool z := by rw [(evO_sound T hc).1]; rfl
    split at hq
    · split at hq
      · rename_i s0 hs
        simp only [Option.some.injEq, Prod.mk.injEq] at hq
        obtain ⟨rfl, rfl, rfl⟩ := hq
        have : z = true := hsd _ List.mem_cons_self
        exact fin z x hz (by rw [this]; rfl) (evO_sound T hs)
      · cases hq
    · split at hq
      · rename_i s0 hs
        simp only [Option.some.injEq, Prod.mk.injEq] at hq
        obtain ⟨rfl, rfl, rfl⟩ := hq
        have : z = false := hsd _ List.mem_cons_self
        exact fin z y hz (by rw [this]; rfl) (evO_sound T hs)
      · cases hq
    · cases hq
  · cases hq

theorem cells_at {cs : List SV} {T0 : TypeId} {i : Nat} (S : SatQ F h e w) (hi : h[i]? = some (.cells cs T0)) :
    ∀ j v, (denL e cs)[j]? = some v → w.cell? ⟨e.blk i, j, none⟩ = some v := by
  intro j v hv
  have := S.sat i _ hi
  simp only [HO.sat] at this
  rw [cell_of_row w (e.blk i) j _ T0 _ this]
  simpa using hv

theorem xload_sound (T : TSat n h.length tm e a) (S : SatQ F h e w) (W : ∀ (i : Nat) (ho : HO), h[i]? = some ho → ho.ws h.length) {o : Oper} {t : TypeId} {x : Operand} (ho : o.op = .load t x)
    (hq : xload P tm h D t x = some (s, sd, D')) (hsd : ∀ x ∈ sd, x (mem w e h)) : Good P h e a w o s := by
  unfold xload at hq
  split at hq
  · rename_i i off hx
    split at hq
    · rename_i cs T0 hi
      obtain ⟨r1, r2⟩ := ownLoad_sound hq hsd (cells_at S hi) (W i _ hi)
      refine ⟨?_, r2⟩
      simp only [execOp, ho, (evO_sound T hx).1, den, Instr.loadAt, Instr.sureAddr, Sem.run_bind, Sem.run_pure, Result.andThen_ok, r1]
    · cases hq
  · rename_i i off hx
    split at hq
    · rename_i T0 sz nn xs hi
      split at hq
      · rename_i s1 sd1 D1 hl
        simp only [Option.some.injEq, Prod.mk.injEq] at hq
        obtain ⟨rfl, rfl, rfl⟩ := hq
        obtain ⟨g, cap, cur, hv, hh, ht⟩ := row_some S hi (hsd _ List.mem_cons_self)
        have hc : ∀ j v, (denL e xs)[j]? = some v → w.cell? ⟨g, j, none⟩ = some v := by
          intro j v hjv
          rw [cell_of_row w g j cur T0 _ hh]
          rw [← ht, List.getElem?_take] at hjv
          split at hjv
          · simpa using hjv
          · cases hjv
        obtain ⟨r1, r2⟩ := ownLoad_sound hl (fun x hx => hsd x (List.mem_cons_of_mem _ hx)) hc (W i _ hi)
        refine ⟨?_, r2⟩
        simp only [execOp, ho, (evO_sound T hx).1, den, hv, Instr.loadAt, Instr.sureAddr, Sem.run_bind, Sem.run_pure, Result.andThen_ok, r1]
      · cases hq
    · cases hq
  · rename_i oa hx
    obtain ⟨r1, r2⟩ := extLoad_sound (hl := h.length) hq hsd (mem_le_wmem w e h) e
    refine ⟨?_, r2⟩
    simp only [execOp, ho, (evO_sound T hx).1, den, Sem.run_bind, r1, Result.andThen_ok]
    rfl
  · cases hq

theorem xnil_sound (T : TSat n h.length tm e a) {o : Oper} {x : Operand} (ho : o.op = .nilCheck x) (hq : xnil P tm D o x = some (s, sd, D')) {M : Mem} (hsd : ∀ x ∈ sd, x M) : Good P h e a w o s := by
  unfold xnil at hq
  split at hq
  · rename_i i off hx
    simp only [Option.some.injEq, Prod.mk.injEq] at hq
    obtain ⟨rfl, rfl, rfl⟩ := hq
    refine ⟨?_, (evO_sound T hx).2⟩
    simp only [execOp, ho, (evO_sound T hx).1, den]
    rfl
  · rename_i f x1 c1 hx
    simp only [Option.some.injEq, Prod.mk.injEq] at hq
    obtain ⟨rfl, rfl, rfl⟩ := hq
    refine ⟨?_, (evO_sound T hx).2⟩
    simp only [execOp, ho, (evO_sound T hx).1, den]
    rfl
  · rename_i t y hx
    simp only [Option.some.injEq, Prod.mk.injEq] at hq
    obtain ⟨rfl, rfl, rfl⟩ := hq
    refine ⟨?_, (evO_sound T hx).2⟩
    simp only [execOp, ho, (evO_sound T hx).1, den]
    rfl
  · rename_i oa hx
    simp only [Option.some.injEq, Prod.mk.injEq] at hq
    obtain ⟨rfl, rfl, rfl⟩ := hq
    refine ⟨?_, (evO_sound T hx).2⟩
    have := hsd _ List.mem_cons_self
    cases oa with
    | none => simp at this
    | some ad =>
      simp only [execOp, ho, (evO_sound T hx).1, den]
      rfl
  · exact xgen_sound T hq

theorem xfieldAddr_sound (T : TSat n h.length tm e a) (S : SatQ F h e w) {w' : World} {o : Oper} {S0 : TypeId} {x : Operand} {f : Nat} (ho : o.op = .fieldAddr S0 x f)
    (hq : xfieldAddr P tm h D S0 x f = some (s, sd, D')) (hsd : ∀ x ∈ sd, x (mem w e h)) : Good P h e a w' o s := by
  unfold xfieldAddr at hq
  split at hq
  · rename_i fs hu
    split at hq
    · rename_i fd hf
      split at hq
      · rename_i k s0 hk hx
        split at hq
        · rename_i s' sd' hp
          simp only [Option.some.injEq, Prod.mk.injEq] at hq
          obtain ⟨rfl, rfl, rfl⟩ := hq
          obtain ⟨⟨ad, e1, e2⟩, hw⟩ := ptrAdd_sound S hp hsd
          refine ⟨?_, hw _ (evO_sound T hx).2⟩
          simp only [execOp, ho, (evO_sound T hx).1, e1, e2, Sem.run_bind, run_fieldAt hu hf hk (Nat.succ_ne_zero k), Result.andThen_ok]
          rfl
        · cases hq
      · cases hq
    · cases hq
  · cases hq

theorem xindexAddr_sound (T : TSat n h.length tm e a) (S : SatQ F h e w) {w' : World} {o : Oper} {T0 : TypeId} {x ix : Operand} (ho : o.op = .indexAddr T0 x ix)
    (hq : xindexAddr P tm h D T0 x ix = some (s, sd, D')) (hsd : ∀ x ∈ sd, x (mem w e h)) : Good P h e a w' o s := by
  unfold xindexAddr at hq
  split at hq
  · cases hq
  · rename_i k i hi
    have ei := evInt_sound T hi
    split at hq
    · rename_i len el hu
      split at hq
      · rename_i sz s0 hsz hx
        split at hq
        · rename_i s' sd' hp
          simp only [Option.some.injEq, Prod.mk.injEq] at hq
          obtain ⟨rfl, rfl, rfl⟩ := hq
          obtain ⟨⟨ad, e1, e2⟩, hw⟩ := ptrAdd_sound S hp (fun x hx => hsd x (List.mem_cons_of_mem _ hx))
          have h0 := hsd _ List.mem_cons_self
          refine ⟨?_, hw _ (evO_sound T hx).2⟩
          simp only [execOp, ho, (evO_sound T hx).1, ei, e1, e2, Sem.run_bind, run_indexAt_array hu hsz h0, Result.andThen_ok]
          rfl
        · cases hq
      · cases hq
    · rename_i el hu
      split at hq
      · rename_i sz j hsz hx
        split at hq
        · rename_i T1 sz1 nn xs hr
          simp only [Option.some.injEq, Prod.mk.injEq] at hq
          obtain ⟨rfl, rfl, rfl⟩ := hq
          have h0 : 0 ≤ i ∧ i < (nn : Int) := hsd _ List.mem_cons_self
          obtain ⟨⟨_, hr2⟩, _⟩ := S.sat j _ hr
          refine ⟨?_, (evO_sound T hx).2⟩
          rcases hr2 with ⟨_, hn⟩ | ⟨g, cap, cur, hv, _⟩
          · omega
          · simp only [execOp, ho, (evO_sound T hx).1, ei, den, hv, Sem.run_bind, run_indexAt_slice hu hsz h0, Result.andThen_ok, Addr.add_lit, Nat.zero_add]
            rfl
        · cases hq
      · rename_i sz j off len cap hsz hx
        simp only [Option.some.injEq, Prod.mk.injEq] at hq
        obtain ⟨rfl, rfl, rfl⟩ := hq
        have h0 : 0 ≤ i ∧ i < (len : Int) := hsd _ List.mem_cons_self
        refine ⟨?_, (evO_sound T hx).2⟩
        simp only [execOp, ho, (evO_sound T hx).1, ei, den, Sem.run_bind, run_indexAt_slice hu hsz h0, Result.andThen_ok, Addr.add_lit]
        rfl
      · rename_i sz oa len cap hsz hx
        simp only [Option.some.injEq, Prod.mk.injEq] at hq
        obtain ⟨rfl, rfl, rfl⟩ := hq
        have h0 : 0 ≤ i ∧ i < (len : Int) := hsd _ List.mem_cons_self
        have h1 : oa.isSome = true := hsd _ (List.mem_cons_of_mem _ List.mem_cons_self)
        refine ⟨?_, trivial⟩
        cases oa with
        | none => cases h1
        | some ad =>
          simp only [execOp, ho, (evO_sound T hx).1, ei, den, Sem.run_bind, run_indexAt_slice hu hsz h0, Result.andThen_ok]
          rfl
      · cases hq
    · cases hq

theorem xpart_sound {t : TypeId} {cs : List SV} {off : Nat} (hq : xpart P t cs off = some s) (hw : wsL h.length cs) :
    (part t (denL e cs).toArray off).run P w = .ok (den e s) w ∧ ws h.length s := by
  unfold xpart at hq
  split at hq
  · rename_i k ha hk
    cases hb : Nat.beq ((cs.drop off).take k).length k with
    | false => rw [hb] at hq; cases hq
    | true =>
      rw [hb] at hq
      simp only [cond_true, Option.some.injEq] at hq
      subst hq
      refine ⟨?_, wsL_take (wsL_drop hw)⟩
      simp only [part, Sem.run_bind, aggB_run ha, Result.andThen_ok, tsize_run hk, Sem.run_ite, if_true, Sem.run_pure]
      simp only [den, denL_take, denL_drop]
      congr 2
      simp
  · rename_i ha
    refine ⟨?_, (wsL_iff _ _).1 hw s (List.mem_of_getElem? hq)⟩
    have : (denL e cs).toArray[off]? = some (den e s) := by simp [denL_map, hq]
    simp only [part, Sem.run_bind, aggB_run ha, Result.andThen_ok, Bool.false_eq_true, if_false, this]
    rfl
  · cases hq

theorem xindex_sound (T : TSat n h.length tm e a) {o : Oper} {T0 : TypeId} {x ix : Operand} (ho : o.op = .index T0 x ix)
    (hq : xindex P tm D o T0 x ix = some (s, sd, D')) {M : Mem} (hsd : ∀ x ∈ sd, x M) : Good P h e a w o s := by
  unfold xindex at hq
  split at hq
  · cases hq
  · rename_i k i hi
    have ei := evInt_sound T hi
    split at hq
    · rename_i len el s0 hu hx
      split at hq
      · rename_i sz cs hsz
        split at hq
        · rename_i r hp
          simp only [Option.some.injEq, Prod.mk.injEq] at hq
          obtain ⟨rfl, rfl, rfl⟩ := hq
          have h0 : 0 ≤ i ∧ i < (len : Int) := hsd _ List.mem_cons_self
          obtain ⟨q1, q2⟩ := xpart_sound (P := P) (e := e) (w := w) hp (evO_sound T hx).2
          refine ⟨?_, q2⟩
          simp only [execOp, ho, (evO_sound T hx).1, ei, den, Instr.index, asIntOf, Sem.run_bind, Sem.run_pure, Result.andThen_ok, run_underlying hu, Sem.run_ite, h0, and_self, if_true, tsize_run hsz, q1]
        · cases hq
      · exact xgen_sound T hq
    · rename_i s0 hu hx
      simp only [Option.some.injEq, Prod.mk.injEq] at hq
      obtain ⟨rfl, rfl, rfl⟩ := hq
      have h0 : 0 ≤ i ∧ i < (s0.size : Int) := hsd _ List.mem_cons_self
      refine ⟨?_, trivial⟩
      have hlt : i.toNat < s0.size := by omega
      simp only [execOp, ho, (evO_sound T hx).1, ei, den, Instr.index, asIntOf, Sem.run_bind, Sem.run_pure, Result.andThen_ok, run_underlying hu, h0.1, if_true]
      have e1 : s0[i.toNat]? = some s0[i.toNat] := getElem?_pos s0 i.toNat hlt
      simp only [e1, Sem.run_pure, Result.andThen_ok]
      congr 3
      unfold sbyte
      have : s0.data.toList[i.toNat]? = some s0[i.toNat] := by
        rw [List.getElem?_eq_getElem (by simpa using hlt)]
        rfl
      rw [this]
      rfl
    · cases hq

theorem xfield_sound (T : TSat n h.length tm e a) {o : Oper} {T0 : TypeId} {x : Operand} {f : Nat} (ho : o.op = .field T0 x f)
    (hq : xfield P tm D o T0 x f = some (s, sd, D')) : Good P h e a w o s := by
  unfold xfield at hq
  split at hq
  · rename_i fs cs hu hx
    split at hq
    · rename_i fd hf
      unfold one at hq
      split at hq
      · rename_i s0 hp
        simp only [Option.some.injEq, Prod.mk.injEq] at hq
        obtain ⟨rfl, rfl, rfl⟩ := hq
        obtain ⟨q1, q2⟩ := xpart_sound (P := P) (e := e) (w := w) hp (evO_sound T hx).2
        refine ⟨?_, q2⟩
        simp only [execOp, ho, (evO_sound T hx).1, den, Instr.field, Sem.run_bind, run_underlying hu, Result.andThen_ok, hf, asAgg, Sem.run_pure, q1]
      · cases hq
    · cases hq
  · exact xgen_sound T hq

theorem xextract_sound (T : TSat n h.length tm e a) {o : Oper} {x : Operand} {ix : Nat} (ho : o.op = .extract x ix)
    (hq : xextract P tm D o x ix = some (s, sd, D')) : Good P h e a w o s := by
  unfold xextract at hq
  split at hq
  · rename_i cs hx
    unfold one at hq
    split at hq
    · rename_i s0 hp
      simp only [Option.some.injEq, Prod.mk.injEq] at hq
      obtain ⟨rfl, rfl, rfl⟩ := hq
      have : (denL e cs).toArray[ix]? = some (den e s0) := by simp [denL_map, hp]
      refine ⟨?_, (wsL_iff _ _).1 (evO_sound T hx).2 s0 (List.mem_of_getElem? hp)⟩
      simp only [execOp, ho, (evO_sound T hx).1, den, Instr.extract, this, Sem.run_bind, Sem.run_pure, Result.andThen_ok]
    · cases hq
  · exact xgen_sound T hq

theorem xiface_sound (T : TSat n h.length tm e a) {o : Oper} {T0 : TypeId} {x : Operand} (ho : o.op = .makeInterface T0 x)
    (hq : xiface P tm D T0 x = some (s, sd, D')) : Good P h e a w o s := by
  unfold xiface at hq
  split at hq
  · cases hq
  · rename_i d s0 hne hu hx
    simp only [Option.some.injEq, Prod.mk.injEq] at hq
    obtain ⟨rfl, rfl, rfl⟩ := hq
    refine ⟨?_, (evO_sound T hx).2⟩
    simp only [execOp, ho, (evO_sound T hx).1, den, Instr.makeInterface, Sem.run_bind, run_underlying hu, Result.andThen_ok]
    cases d with
    | interface ms => exact (hne ms rfl).elim
    | _ => rfl
  · cases hq
end
end Go.Sx
