/- The reckoner of the operations that write nothing: its truth, the rest. -/
import Derived.Test.YtpghmnpbfaichaaSx6
namespace Go.Sx
open Go.RowKit

section
variable {P : Program} {X : Ext P} {F : Mem → Prop} {tm : List (Nat × SV)} {n : Nat} {h : List HO} {e : Env} {a : Act} {w : World} {D D' : List Dec} {s : SV} {sd : List Side}

theorem xbuild_sound (T : TSat n h.length tm e a) (S : SatQ F h e w) {w' : World} {o : Oper} {t : TypeId} {parts : Array (Nat × Operand)} (ho : o.op = .build t parts)
    (hq : xbuild P tm h D t parts = some (s, sd, D')) : Good P h e a w' o s := by
  unfold xbuild at hq
  split at hq
  · rename_i z ps hz hps
    have hz' := fun w => prun_sound hz w
    obtain ⟨p1, p2⟩ := evParts_sound T parts.toList hps
    have hparts : (parts.map fun (x : Nat × Operand) => (x.1, a.eval x.2)).toList = ps.map fun x => (x.1, den e x.2) := by
      rw [Array.toList_map]; exact p1
    have hzc : z.cells = (denL e (z.cells.toList.map SV.v)).toArray := by rw [denL_mapv]
    split at hq
    · rename_i fs hu
      split at hq
      · rename_i places hpl
        split at hq
        · rename_i r hr
          simp only [Option.some.injEq, Prod.mk.injEq] at hq
          obtain ⟨rfl, rfl, rfl⟩ := hq
          obtain ⟨f1, f2⟩ := fillS_sound S h.length _ ps _ hr (wsL_mapv _ _) p2
          refine ⟨?_, f2⟩
          simp only [execOp, ho, Instr.build, Sem.run_bind, hz' w', Result.andThen_ok, run_underlying hu, prun_sound hpl w']
          rw [hparts, hzc]
          simp only [f1, Sem.run_pure, den, Result.andThen_ok]
        · cases hq
      · cases hq
    · rename_i len el hu
      split at hq
      · rename_i sz hsz
        split at hq
        · rename_i r hr
          simp only [Option.some.injEq, Prod.mk.injEq] at hq
          obtain ⟨rfl, rfl, rfl⟩ := hq
          obtain ⟨f1, f2⟩ := fillS_sound S h.length _ ps _ hr (wsL_mapv _ _) p2
          refine ⟨?_, f2⟩
          simp only [execOp, ho, Instr.build, Sem.run_bind, hz' w', Result.andThen_ok, run_underlying hu, tsize_run hsz w']
          rw [hparts, hzc]
          simp only [f1, Sem.run_pure, den, Result.andThen_ok]
        · cases hq
      · cases hq
    · cases hq
  · cases hq

theorem xint_sound {op : BinOp} {k k' : IntKind} {x y : Int} (hk : (op = .quo ∨ op = .rem) → k = k') (hq : xint op k x y D = some (s, sd, D')) {M : Mem} (hsd : ∀ x ∈ sd, x M) :
    (∀ (T : TypeId) (u v : Operand), (do eqGuard op T u v (.int k x) (.int k' y); binOp op T (.int k x) (.int k' y) : Sem Value).run P w = .ok (den e s) w) ∧ ws h.length s := by
  unfold xint at hq
  split at hq
  · simp only [Option.some.injEq, Prod.mk.injEq] at hq
    obtain ⟨rfl, rfl, rfl⟩ := hq
    have h0 : ¬ y < 0 := hsd _ List.mem_cons_self
    refine ⟨fun T u v => ?_, trivial⟩
    simp [eqGuard, binOp, Op.shift, den, h0]
  · simp only [Option.some.injEq, Prod.mk.injEq] at hq
    obtain ⟨rfl, rfl, rfl⟩ := hq
    have h0 : ¬ y < 0 := hsd _ List.mem_cons_self
    refine ⟨fun T u v => ?_, trivial⟩
    simp [eqGuard, binOp, Op.shift, den, h0]
  · simp only [Option.some.injEq, Prod.mk.injEq] at hq
    obtain ⟨rfl, rfl, rfl⟩ := hq
    have h0 : ¬ y = 0 := hsd _ List.mem_cons_self
    have hkk := hk (.inl rfl)
    subst hkk
    refine ⟨fun T u v => ?_, trivial⟩
    simp [eqGuard, binOp, Op.intDiv, den, h0]
  · simp only [Option.some.injEq, Prod.mk.injEq] at hq
    obtain ⟨rfl, rfl, rfl⟩ := hq
    have h0 : ¬ y = 0 := hsd _ List.mem_cons_self
    have hkk := hk (.inr rfl)
    subst hkk
    refine ⟨fun T u v => ?_, trivial⟩
    simp [eqGuard, binOp, Op.intDiv, den, h0]
  · cases hq

theorem xbin_sound (T : TSat n h.length tm e a) {o : Oper} {op : BinOp} {t yt : TypeId} {x y : Operand} (ho : o.op = .binOp op t x y yt)
    (hq : xbin P X tm D o op t x y = some (s, sd, D')) {M : Mem} (hsd : ∀ x ∈ sd, x M) : Good P h e a w o s := by
  unfold xbin at hq
  have fin : ∀ (u v : Value), a.eval x = u → a.eval y = v → (do eqGuard op t x y u v; binOp op t u v : Sem Value).run P w = .ok (den e s) w → (execOp a.eval o).run P w = .ok (.value (den e s)) w := by
    intro u v hu hv hr
    simp only [execOp, ho, hu, hv]
    rw [Sem.run_bind, hr]
    rfl
  split at hq
  · rename_i k m k' m' hx hy
    have ex := evPlain_sound T hx
    have ey := evPlain_sound T hy
    split at hq
    · obtain ⟨r1, r2⟩ := xint_sound (P := P) (h := h) (e := e) (w := w) (k' := k') (fun hh => by rcases hh with hh | hh <;> cases hh) hq hsd
      exact ⟨fin _ _ ex ey (r1 t x y), r2⟩
    · obtain ⟨r1, r2⟩ := xint_sound (P := P) (h := h) (e := e) (w := w) (k' := k') (fun hh => by rcases hh with hh | hh <;> cases hh) hq hsd
      exact ⟨fin _ _ ex ey (r1 t x y), r2⟩
    · by_cases hk : k = k'
      · subst hk
        simp only [decide_true, cond_true] at hq
        obtain ⟨r1, r2⟩ := xint_sound (P := P) (h := h) (e := e) (w := w) (k' := k) (fun _ => rfl) hq hsd
        exact ⟨fin _ _ ex ey (r1 t x y), r2⟩
      · simp only [hk, decide_false, cond_false] at hq
        cases hq
    · by_cases hk : k = k'
      · subst hk
        simp only [decide_true, cond_true] at hq
        obtain ⟨r1, r2⟩ := xint_sound (P := P) (h := h) (e := e) (w := w) (k' := k) (fun _ => rfl) hq hsd
        exact ⟨fin _ _ ex ey (r1 t x y), r2⟩
      · simp only [hk, decide_false, cond_false] at hq
        cases hq
    · exact xgen_sound T hq
  · rename_i A B hx hy
    have ex := evPlain_sound T hx
    have ey := evPlain_sound T hy
    split at hq
    · rename_i ks hks
      split at hq
      · rename_i xs ys hxs hys
        obtain ⟨x1, x2⟩ := unInts_sound ks _ hxs
        obtain ⟨y1, y2⟩ := unInts_sound ks _ hys
        have hA : A = (mkInts ks xs).toArray := by rw [← x1]
        have hB : B = (mkInts ks ys).toArray := by rw [← y1]
        obtain ⟨q1, q2⟩ := X.eqOk t ks xs ys x y w hks x2 y2
        split at hq
        · simp only [Option.some.injEq, Prod.mk.injEq] at hq
          obtain ⟨rfl, rfl, rfl⟩ := hq
          refine ⟨fin _ _ ex ey ?_, trivial⟩
          rw [hA, hB]
          exact q1
        · simp only [Option.some.injEq, Prod.mk.injEq] at hq
          obtain ⟨rfl, rfl, rfl⟩ := hq
          refine ⟨fin _ _ ex ey ?_, trivial⟩
          rw [hA, hB]
          exact q2
        · cases hq
      · cases hq
    · cases hq
  · rename_i u v hx hy
    have ex := evPlain_sound T hx
    have ey := evPlain_sound T hy
    split at hq
    · simp only [Option.some.injEq, Prod.mk.injEq] at hq
      obtain ⟨rfl, rfl, rfl⟩ := hq
      have hle : u.size + v.size ≤ 9223372036854775807 := hsd _ List.mem_cons_self
      refine ⟨fin _ _ ex ey ?_, trivial⟩
      have hmax : ¬ ((u.size + v.size : Nat) : Int) > IntKind.i64.max := by
        have : IntKind.i64.max = 9223372036854775807 := by decide
        rw [this]
        omega
      simp only [Sem.run_bind, eqGuard, binOp, Op.stringOp]
      rw [if_neg hmax]
      rfl
    · exact xgen_sound T hq
  · exact xgen_sound T hq

theorem xslice_sound (T : TSat n h.length tm e a) {o : Oper} {t : TypeId} {x : Operand} {lo hi mx : Option Operand} (ho : o.op = .slice t x lo hi mx)
    (hq : xslice P tm D t x lo hi mx = some (s, sd, D')) {M : Mem} (hsd : ∀ x ∈ sd, x M) : Good P h e a w o s := by
  unfold xslice at hq
  split at hq
  · rename_i nn el hu
    split at hq
    · rename_i sz i off hsz hx
      split at hq
      · rename_i l hh m sd1 hb
        simp only [Option.some.injEq, Prod.mk.injEq] at hq
        obtain ⟨rfl, rfl, rfl⟩ := hq
        refine ⟨?_, (evO_sound T hx).2⟩
        have := xbnds_sound (P := P) (w := w) T hb hsd false
        simp only [execOp, ho, (evO_sound T hx).1, den, Instr.sliceAt, Sem.run_bind, run_underlying hu, Result.andThen_ok, Instr.sureAddr, Sem.run_pure, this, tsize_run hsz]
        congr 4
        split <;> simp [Addr.add_lit]
      · cases hq
    · cases hq
  · rename_i hu
    split at hq
    · rename_i _ s0 hx
      split at hq
      · rename_i l hh m sd1 hb
        simp only [Option.some.injEq, Prod.mk.injEq] at hq
        obtain ⟨rfl, rfl, rfl⟩ := hq
        refine ⟨?_, trivial⟩
        have := xbnds_sound (P := P) (w := w) T hb hsd false
        simp only [Option.map_none] at this
        simp only [execOp, ho, (evO_sound T hx).1, den, Instr.sliceAt, Instr.slice, Sem.run_bind, run_underlying hu, Result.andThen_ok, Option.map_none, Option.isSome_none, Bool.false_eq_true, if_false, Sem.run_pure, this]
      · cases hq
    · cases hq
  · rename_i el hu
    split at hq
    · rename_i sz oa len cap hsz hx
      split at hq
      · rename_i l hh m sd1 hb
        simp only [Option.some.injEq, Prod.mk.injEq] at hq
        obtain ⟨rfl, rfl, rfl⟩ := hq
        refine ⟨?_, trivial⟩
        have := xbnds_sound (P := P) (w := w) T hb hsd true
        simp only [execOp, ho, (evO_sound T hx).1, den, Instr.sliceAt, Instr.slice, Sem.run_bind, run_underlying hu, Result.andThen_ok, Sem.run_pure, this, tsize_run hsz]
      · cases hq
    · rename_i sz i off len cap hsz hx
      split at hq
      · rename_i l hh m sd1 hb
        simp only [Option.some.injEq, Prod.mk.injEq] at hq
        obtain ⟨rfl, rfl, rfl⟩ := hq
        refine ⟨?_, (evO_sound T hx).2⟩
        have := xbnds_sound (P := P) (w := w) T hb hsd true
        simp only [execOp, ho, (evO_sound T hx).1, den, Instr.sliceAt, Instr.slice, Sem.run_bind, run_underlying hu, Result.andThen_ok, Sem.run_pure, this, tsize_run hsz]
        congr 4
        split <;> simp [Addr.add_lit]
      · cases hq
    · cases hq
  · cases hq

theorem xcall_sound (T : TSat n h.length tm e a) (S : SatQ F h e w) {w' : World} {o : Oper} {c : Call} (ho : o.op = .call c)
    (hq : xcall P X tm h D o c = some (s, sd, D')) {M : Mem} (hsd : ∀ x ∈ sd, x M) : Good P h e a w' o s := by
  unfold xcall at hq
  split at hq
  · rename_i hc
    split at hq
    · rename_i x T0 hargs htys
      have ha : c.args = #[x] := by rw [← hargs]
      have ht : c.argTypes = #[T0] := by rw [← htys]
      split at hq
      · rename_i el hu
        split at hq
        · rename_i i hx
          split at hq
          · rename_i T1 sz nn xs hr
            simp only [Option.some.injEq, Prod.mk.injEq] at hq
            obtain ⟨rfl, rfl, rfl⟩ := hq
            refine ⟨?_, trivial⟩
            obtain ⟨⟨_, hr2⟩, _⟩ := S.sat i _ hr
            have hv : ∃ oa cap, e.row i = .slice oa nn cap := by
              rcases hr2 with ⟨hv, hn⟩ | ⟨g, cap, cur, hv, _⟩
              · subst hn; exact ⟨_, _, hv⟩
              · exact ⟨_, _, hv⟩
            obtain ⟨oa, cap, hv⟩ := hv
            simp [execOp, ho, resolve, hc, ha, ht, invoke, builtin, Builtin.len_, (evO_sound T hx).1, den, hv, run_underlying hu, goInt]
          · cases hq
        · rename_i i off len cap hx
          simp only [Option.some.injEq, Prod.mk.injEq] at hq
          obtain ⟨rfl, rfl, rfl⟩ := hq
          refine ⟨?_, trivial⟩
          simp [execOp, ho, resolve, hc, ha, ht, invoke, builtin, Builtin.len_, (evO_sound T hx).1, den, run_underlying hu, goInt]
        · exact xgen_sound T hq
      · exact xgen_sound T hq
    · cases hq
  · rename_i f hc
    split at hq
    · rename_i ss hss
      split at hq
      · rename_i vs hvs
        split at hq
        · rename_i v p hext
          simp only [Option.some.injEq, Prod.mk.injEq] at hq
          obtain ⟨rfl, rfl, rfl⟩ := hq
          refine ⟨?_, trivial⟩
          have hp : p := hsd _ List.mem_cons_self
          obtain ⟨e1, _⟩ := evList_sound T _ hss
          have e2 : c.args.map a.eval = vs.toArray := by
            apply Array.ext'
            rw [Array.toList_map, e1, plainL_sound e ss hvs]
          have := X.extOk f vs v p w' hext hp
          simp [execOp, ho, resolve, hc, e2, invoke, Deferred.ofValue, Act.eval, this, den]
        · cases hq
      · cases hq
    · cases hq
  · exact xgen_sound T hq
  · cases hq

theorem xarr_sound (T : TSat n h.length tm e a) (S : SatQ F h e w) {w' : World} {o : Oper} {t : TypeId} {x : Operand} (ho : o.op = .sliceToArrayPointer t x)
    (hq : xarr P tm h D t x = some (s, sd, D')) {M : Mem} (hsd : ∀ x ∈ sd, x M) : Good P h e a w' o s := by
  unfold xarr at hq
  split at hq
  · rename_i nn el hu
    split at hq
    · rename_i i off len cap hx
      simp only [Option.some.injEq, Prod.mk.injEq] at hq
      obtain ⟨rfl, rfl, rfl⟩ := hq
      have hle : nn ≤ len := hsd _ List.mem_cons_self
      refine ⟨?_, (evO_sound T hx).2⟩
      simp only [execOp, ho, (evO_sound T hx).1, den, Instr.arrayAt, Sem.run_bind, run_underlying hu, Result.andThen_ok]
      rw [if_neg (by omega)]
      rfl
    · rename_i oa len cap hx
      simp only [Option.some.injEq, Prod.mk.injEq] at hq
      obtain ⟨rfl, rfl, rfl⟩ := hq
      have hle : nn ≤ len := hsd _ List.mem_cons_self
      refine ⟨?_, trivial⟩
      simp only [execOp, ho, (evO_sound T hx).1, den, Instr.arrayAt, Sem.run_bind, run_underlying hu, Result.andThen_ok]
      rw [if_neg (by omega)]
      rfl
    · rename_i i hx
      split at hq
      · rename_i T1 sz m xs hr
        simp only [Option.some.injEq, Prod.mk.injEq] at hq
        obtain ⟨rfl, rfl, rfl⟩ := hq
        obtain ⟨hle, hpos⟩ : nn ≤ m ∧ 0 < m := hsd _ List.mem_cons_self
        refine ⟨?_, (evO_sound T hx).2⟩
        obtain ⟨⟨_, hr2⟩, _⟩ := S.sat i _ hr
        rcases hr2 with ⟨hv, hn⟩ | ⟨g, cap, cur, hv, _⟩
        · omega
        · simp only [execOp, ho, (evO_sound T hx).1, den, hv, Instr.arrayAt, Sem.run_bind, run_underlying hu, Result.andThen_ok]
          rw [if_neg (by omega)]
          rfl
      · cases hq
    · cases hq
  · cases hq

theorem xassert_sound (T : TSat n h.length tm e a) {w' : World} {o : Oper} {x : Operand} {xT t : TypeId} {ok : Bool} (ho : o.op = .typeAssert x xT t ok)
    (hq : xassert P tm D o x t ok = some (s, sd, D')) : Good P h e a w' o s := by
  unfold xassert at hq
  split at hq
  · rename_i t1 v want hx hu
    split at hq
    · rename_i hl
      simp only [Option.some.injEq, Prod.mk.injEq] at hq
      obtain ⟨rfl, rfl, rfl⟩ := hq
      refine ⟨?_, trivial⟩
      have := run_typeAssert_hasB (P := P) hu hl v xT w'
      simp [execOp, ho, evPlain_sound T hx, this, den]
    · rename_i hl
      split at hq
      · rename_i z hz
        simp only [Option.some.injEq, Prod.mk.injEq] at hq
        obtain ⟨rfl, rfl, rfl⟩ := hq
        refine ⟨?_, trivial⟩
        have := run_typeAssert_lacksB (P := P) hu hl hz v xT w'
        simp [execOp, ho, evPlain_sound T hx, this, den]
      · cases hq
    · cases hq
  · exact xgen_sound T hq

theorem xq_sound (T : TSat n h.length tm e a) (S : SatQ F h e w) (W : ∀ (i : Nat) (ho : HO), h[i]? = some ho → ho.ws h.length) {o : Oper}
    (hq : xq P X tm h D o = some (s, sd, D')) (hsd : hold F sd) (w' : World) (hS : (match o.op with | .load .. => true | _ => false) = true → SatQ F h e w') : Good P h e a w' o s := by
  have hs : ∀ x ∈ sd, x (mem w e h) := fun x hx => hsd x hx _ S.fact
  unfold xq at hq
  split at hq
  · rename_i x ho
    obtain ⟨q1, q2⟩ := one_sound T hq
    refine ⟨?_, q2⟩
    simp only [execOp, ho, q1]
    rfl
  · rename_i x ho
    obtain ⟨q1, q2⟩ := one_sound T hq
    refine ⟨?_, q2⟩
    simp only [execOp, ho, q1]
    rfl
  · rename_i ho; exact xpick_sound T ho hq hs
  · rename_i ho
    have S' := hS (by rw [ho])
    exact xload_sound T S' W ho hq (fun x hx => hsd x hx _ S'.fact)
  · rename_i ho; exact xnil_sound T ho hq hs
  · rename_i ho; exact xfieldAddr_sound T S ho hq hs
  · rename_i ho; exact xindexAddr_sound T S ho hq hs
  · rename_i ho; exact xindex_sound T ho hq hs
  · rename_i ho; exact xfield_sound T ho hq
  · rename_i ho; exact xextract_sound T ho hq
  · rename_i ho; exact xiface_sound T ho hq
  · rename_i f x1 c1 ho
    split at hq
    · rename_i x y hx hy
      simp only [Option.some.injEq, Prod.mk.injEq] at hq
      obtain ⟨rfl, rfl, rfl⟩ := hq
      obtain ⟨q1, q2⟩ := evList_sound T _ hx
      obtain ⟨p1, p2⟩ := evList_sound T _ hy
      refine ⟨?_, q2, p2⟩
      have e1 : x1.map a.eval = (denL e x).toArray := by apply Array.ext'; rw [Array.toList_map, q1]
      have e2 : c1.map a.eval = (denL e y).toArray := by apply Array.ext'; rw [Array.toList_map, p1]
      simp only [execOp, ho, e1, e2, den, Instr.makeFunc]
      rfl
    · cases hq
  · rename_i ho; exact xbuild_sound T S ho hq
  · rename_i ho; exact xbin_sound T ho hq hs
  · rename_i ho; exact xslice_sound T ho hq hs
  · rename_i ho; exact xcall_sound T S ho hq hs
  · exact xgen_sound T hq
  · exact xgen_sound T hq
  · rename_i ho; exact xassert_sound T ho hq
  · rename_i ho; exact xarr_sound T S ho hq hs
  · cases hq
/-- A hint at an operation that yields into a slot: another form of what it yields. -/
def asD : List Dec → Oper → Option (SV × List Dec)
  | .as t s :: D', o => match o.dst with
    | some d => bif Nat.beq d t then some (s, D') else none
    | none => none
  | _, _ => none
def xqa (P : Program) (X : Ext P) (tm : List (Nat × SV)) (h : List HO) (D : List Dec) (o : Oper) : QR :=
  match asD D o with
  | some (s, D') => match xq P X tm h D' o with
    | some (x, sd, D2) => match plain x, plain s with
      | some a, some b => some (s, sd ++ [fun (_ : Mem) => a = b], D2)
      | _, _ => none
    | none => none
  | none => xq P X tm h D o
theorem xqa_sound (T : TSat n h.length tm e a) (S : SatQ F h e w) (W : ∀ (i : Nat) (ho : HO), h[i]? = some ho → ho.ws h.length) {o : Oper}
    (hq : xqa P X tm h D o = some (s, sd, D')) (hsd : hold F sd) (w' : World) (hS : (match o.op with | .load .. => true | _ => false) = true → SatQ F h e w') : Good P h e a w' o s := by
  unfold xqa at hq
  split at hq
  · split at hq
    · rename_i x sd1 D2 hx
      split at hq
      · rename_i u v hu hv
        simp only [Option.some.injEq, Prod.mk.injEq] at hq
        obtain ⟨rfl, rfl, rfl⟩ := hq
        have hg := xq_sound T S W hx (fun y hy => hsd y (List.mem_append_left _ hy)) w' hS
        have heq : u = v := hsd _ (List.mem_append_right _ List.mem_cons_self) _ S.fact
        refine ⟨?_, plain_ws _ _ hv⟩
        rw [hg.1, plain_sound e x hu, plain_sound e _ hv, heq]
      · cases hq
    · cases hq
  · exact xq_sound T S W hq hsd w' hS
end
end Go.Sx
