/- What a prover uses: the beginning, the end, loops, calls, another state. -/
import Derived.Test.YtpghmnpbfaichaaSx15
namespace Go.Sx
open Go.RowKit

/-! ### results -/
def xresOne (P : Program) (st : St) : ResultVar → Option SV
  | .tmp t => lk st.tm t
  | .cell x T => match lk st.tm x with
    | some (.p i off) => match st.heap[i]? with
      | some (.cells cs _) => match ownLoad P T i cs off [] with
        | some (s, [], _) => some s
        | _ => none
      | _ => none
    | _ => none
def xresAll (P : Program) (st : St) : List ResultVar → Option (List SV)
  | [] => some []
  | r :: rs => match xresOne P st r, xresAll P st rs with
    | some s, some l => some (s :: l)
    | _, _ => none
def xres (P : Program) (st : St) (rs : List ResultVar) : Option SV :=
  match xresAll P st rs with
  | some [s] => some s
  | some l => some (.tup l)
  | none => none

/-! ### a call -/
def calleeM (P : Program) (t : TypeId) (v : Value) (name : String) (as : List SV) : Option (FuncId × List SV) :=
  match prun P (method (P.types.size + Made.depth) t v name) with
  | some (f, r) => some (f, .v r :: as)
  | none => none
def calleeOf (P : Program) (st : St) (c : Call) : Option (FuncId × List SV) :=
  match c.callee with
  | .invoke x name => match evO st.tm x, evList st.tm c.args.toList with
    | some (.ifc t y), some as => match plain y with
      | some v => calleeM P t v name as
      | none => none
    | some (.v (.iface t v)), some as => calleeM P t v name as
    | _, _ => none
  | .value x => match evO st.tm x, evList st.tm c.args.toList with
    | some (.fn (.func f) first cap), some as => some (f, first ++ as ++ cap)
    | some (.v (.func (.func f) first cap)), some as => some (f, (first.toList.map SV.v) ++ as ++ (cap.toList.map SV.v))
    | _, _ => none
  | _ => none
def hasBody (P : Program) (f : FuncId) : Bool :=
  match P.funcs[f]? with
  | some fn => fn.body.isSome && !(fn.name == "runtime.NumGoroutine")
  | none => false
def xcallAt (P : Program) (B : Code) (it : It) (st : St) (D : List Dec) : Option (FuncId × List SV × St × List Side × Option Nat × It) :=
  match it with
  | .ops p i => match sub B p with
    | .region _ ops _ => match ops[i]? with
      | some o => match xguard ops st D o with
        | some (true, st1, sd, _) => match o.op with
          | .call c => match calleeOf P st1 c with
            | some (f, args) => bif hasBody P f then some (f, args, st1, sd, o.dst, .ops p (i + 1)) else none
            | none => none
          | _ => none
        | _ => none
      | none => none
    | _ => none
  | .one p fu l i => match sub B p with
    | .region _ ops _ => match ops[i]? with
      | some o => match xguard ops st D o with
        | some (true, st1, sd, _) => match o.op with
          | .call c => match calleeOf P st1 c with
            | some (f, args) => bif hasBody P f then some (f, args, st1, sd, o.dst, .any p fu (l.setIfInBounds i true)) else none
            | none => none
          | _ => none
        | _ => none
      | none => none
    | _ => none
  | _ => none

section
variable {P : Program} {X : Ext P} {B : Code} {n : Nat} {F : Mem → Prop} {w0 : World} {fin : Exit → Act → World → Prop}

theorem Ok.loop {p : List Nat} {k : List It} {st : St} (m : Nat) (hs : (match sub B p with | .loop _ => true | _ => false) = true) (h : Ok P B n F w0 fin (.rnd (0 :: p) m :: k) st) : Ok P B n F w0 fin (.at p :: k) st := by
  intro e a w S T
  have := h e a w S T
  simp only [post, sub] at this ⊢
  cases hc : sub B p with
  | loop c =>
    rw [hc] at this
    exact wp_loop_rounds m this
  | _ => rw [hc] at hs; cases hs
theorem Ok.rnd {q : List Nat} {m : Nat} {k : List It} {st : St} (h : Ok P B n F w0 fin (.at q :: .rnd q m :: k) st) : Ok P B n F w0 fin (.rnd q (m + 1) :: k) st := by
  intro e a w S T
  have := h e a w S T
  simp only [post] at this ⊢
  rw [rounds_succ]
  refine Code.wp_mono (fun e' a' w' hq => ?_) this
  cases e' <;> exact hq

def resOf (tmps : Array Value) : ResultVar → Sem Value
  | .tmp t => pure (tmps.getD t undef)
  | .cell x t => do loadVar t (← asAddr (tmps.getD x undef))
theorem results_eq (fn : Func) (tmps : Array Value) : results fn tmps = (do let vs ← fn.results.mapM (resOf tmps); pure (if h : vs.size = 1 then vs[0] else .tuple vs)) := by
  unfold results
  congr 1

theorem xresOne_sound {st : St} {e : Env} {a : Act} {w : World} (S : SatH F w0 st.heap e w) (T : TSat n st.heap.length st.tm e a) {r : ResultVar} {s : SV} (h : xresOne P st r = some s) :
    (resOf a.tmps r).run P w = .ok (den e s) w := by
  cases r with
  | tmp t =>
    have := T.get t s h
    simp [resOf, this]
  | cell x t =>
    simp only [xresOne] at h
    split at h
    · rename_i i off hx
      split at h
      · rename_i cs T0 hi
        split at h
        · rename_i s1 D1 hl
          simp only [Option.some.injEq] at h
          subst h
          have hg := T.get x _ hx
          obtain ⟨r1, _⟩ := ownLoad_sound (M := fun _ => none) hl (fun x hx => by cases hx) (cells_at S.q hi) (S.ws i _ hi)
          simp only [resOf, Array.getD_eq_getD_getElem?, hg, Option.getD_some, den, asAddr, Sem.run_bind, Sem.run_pure, Result.andThen_ok, r1]
        · cases h
      · cases h
    · cases h
theorem xresAll_sound {st : St} {e : Env} {a : Act} {w : World} (S : SatH F w0 st.heap e w) (T : TSat n st.heap.length st.tm e a) : ∀ (rs : List ResultVar) {l : List SV}, xresAll P st rs = some l →
    (rs.mapM (resOf a.tmps)).run P w = .ok (denL e l) w
  | [], l, h => by
    simp only [xresAll, Option.some.injEq] at h
    subst h
    rfl
  | r :: rs, l, h => by
    simp only [xresAll] at h
    split at h
    · rename_i s l1 h1 h2
      simp only [Option.some.injEq] at h
      subst h
      have q1 := xresOne_sound S T h1
      have q2 := xresAll_sound S T rs h2
      rw [List.mapM_cons, Sem.run_bind]
      rw [q1, Result.andThen_ok, Sem.run_bind, q2]
      rfl
    · cases h
theorem xres_sound {fn : Func} {st : St} {e : Env} {a : Act} {w : World} (S : SatH F w0 st.heap e w) (T : TSat n st.heap.length st.tm e a) {s : SV} (h : xres P st fn.results.toList = some s) :
    (results fn a.tmps).run P w = .ok (den e s) w := by
  have key : ∀ l, xresAll P st fn.results.toList = some l → (results fn a.tmps).run P w = .ok (if h : (denL e l).toArray.size = 1 then (denL e l).toArray[0] else .tuple (denL e l).toArray) w := by
    intro l hl
    have := xresAll_sound S T _ hl
    rw [results_eq, Array.mapM_eq_mapM_toList]
    simp only [Sem.run_bind, Sem.run_map, this, Result.andThen_ok, Sem.run_pure]
  unfold xres at h
  split at h
  · rename_i s1 hl
    simp only [Option.some.injEq] at h
    subst h
    rw [key _ hl]
    rfl
  · rename_i l hne hl
    simp only [Option.some.injEq] at h
    subst h
    rw [key _ hl]
    have hsz : ¬ (denL e l).toArray.size = 1 := by
      intro hh
      simp only [List.size_toArray, denL_length] at hh
      match l, hh with
      | [x], _ => exact hne x rfl
    rw [dif_neg hsz]
    rfl
  · cases h

theorem Ok.done {fn : Func} {R : Ending → World → Prop} {st : St} (s : SV) (h : xres P st fn.results.toList = some s) (hR : ∀ e w, SatH F w0 st.heap e w → R (.returned (den e s)) w) :
    Ok P B n F w0 (bodyPost P fn R) [] st :=
  fun e _ w S T => ⟨T.defers, _, xres_sound S T h, hR e w S⟩
theorem Ok.ret {fn : Func} {R : Ending → World → Prop} {st : St} {k : List It} (s : SV) (h : xres P st fn.results.toList = some s) (hR : ∀ e w, SatH F w0 st.heap e w → R (.returned (den e s)) w) :
    Ok P B n F w0 (bodyPost P fn R) (.ret :: k) st := by
  intro e a w S T
  simp only [post, post_ret]
  exact ⟨T.defers, _, xres_sound S T h, hR e w S⟩

/-! ### another state that says less -/
mutual
def renS (π : List Nat) : SV → SV
  | .v x => .v x
  | .bl b => .bl b
  | .p i off => .p (π.getD i 0) off
  | .o i => .o (π.getD i 0)
  | .q i off => .q (π.getD i 0) off
  | .m i => .m (π.getD i 0)
  | .sl i off len cap => .sl (π.getD i 0) off len cap
  | .agg cs => .agg (renL π cs)
  | .tup cs => .tup (renL π cs)
  | .fn f a c => .fn f (renL π a) (renL π c)
  | .ifc t y => .ifc t (renS π y)
def renL (π : List Nat) : List SV → List SV
  | [] => []
  | x :: r => renS π x :: renL π r
end
def renEnv (π : List Nat) (e : Env) : Env := ⟨fun i => e.blk (π.getD i 0), fun i => e.row (π.getD i 0)⟩
mutual
theorem den_ren (π : List Nat) (e : Env) : ∀ s, den (renEnv π e) s = den e (renS π s)
  | .v x => rfl
  | .bl b => rfl
  | .p i off => rfl
  | .o i => rfl
  | .q i off => rfl
  | .m i => rfl
  | .sl i off len cap => rfl
  | .agg cs => by simp only [den, renS, denL_ren π e cs]
  | .tup cs => by simp only [den, renS, denL_ren π e cs]
  | .fn f a c => by simp only [den, renS, denL_ren π e a, denL_ren π e c]
  | .ifc t y => by simp only [den, renS, den_ren π e y]
theorem denL_ren (π : List Nat) (e : Env) : ∀ l, denL (renEnv π e) l = denL e (renL π l)
  | [] => rfl
  | x :: r => by simp only [denL, renL, den_ren π e x, denL_ren π e r]
end
def renH (π : List Nat) : HO → HO
  | .cells cs T => .cells (renL π cs) T
  | .row T sz n xs => .row T sz n (renL π xs)
  | .obj o => .obj o
  | .gone => .gone
/-- The slots of a state, renamed, are slots of another. -/
def RenT (π : List Nat) (tm : List (Nat × SV)) : List (Nat × SV) → Prop
  | [] => True
  | (t, s) :: r => lk tm t = some (renS π s) ∧ RenT π tm r
def RenH (π : List Nat) (h : List HO) : List HO → List Nat → Prop
  | [], _ => True
  | x :: r, i :: q => h[i]? = some (renH π x) ∧ RenH π h r q
  | _ :: _, [] => False
def nodupB : List Nat → Bool
  | [] => true
  | x :: r => !(r.any fun y => Nat.beq x y) && nodupB r
def wsBs (n : Nat) : SV → Prop := ws n
def wsAllT (n : Nat) : List (Nat × SV) → Prop
  | [] => True
  | (_, s) :: r => ws n s ∧ wsAllT n r
def wsAllH (n : Nat) : List HO → Prop
  | [] => True
  | x :: r => x.ws n ∧ wsAllH n r

theorem RenH_get {π : List Nat} {h : List HO} : ∀ (h' : List HO) (q : List Nat), RenH π h h' q → ∀ (i : Nat) (x : HO), h'[i]? = some x → ∃ j : Nat, q[i]? = some j ∧ h[j]? = some (renH π x)
  | [], q, _, i, x, hx => by cases hx
  | y :: r, j :: q, hr, i, x, hx => by
    cases i with
    | zero =>
      simp only [List.getElem?_cons_zero, Option.some.injEq] at hx
      subst hx
      exact ⟨j, rfl, hr.1⟩
    | succ i => exact RenH_get r q hr.2 i x hx
  | _ :: _, [], hr, i, x, hx => hr.elim
theorem RenT_get {π : List Nat} {tm : List (Nat × SV)} : ∀ (tm' : List (Nat × SV)), RenT π tm tm' → ∀ t s, lk tm' t = some s → lk tm t = some (renS π s)
  | [], _, t, s, h => by cases h
  | (t0, s0) :: r, hr, t, s, h => by
    simp only [lk] at h
    cases hb : Nat.beq t0 t with
    | true =>
      rw [hb] at h
      simp only [cond_true, Option.some.injEq] at h
      subst h
      rw [← Nat.eq_of_beq_eq_true hb]
      exact hr.1
    | false =>
      rw [hb] at h
      exact RenT_get r hr.2 t s h
theorem wsAllT_get {m : Nat} : ∀ (tm' : List (Nat × SV)), wsAllT m tm' → ∀ t s, lk tm' t = some s → ws m s
  | [], _, t, s, h => by cases h
  | (t0, s0) :: r, hr, t, s, h => by
    simp only [lk] at h
    cases hb : Nat.beq t0 t with
    | true =>
      rw [hb] at h
      simp only [cond_true, Option.some.injEq] at h
      subst h
      exact hr.1
    | false =>
      rw [hb] at h
      exact wsAllT_get r hr.2 t s h
theorem wsAllH_get {m : Nat} : ∀ (h' : List HO), wsAllH m h' → ∀ (i : Nat) (x : HO), h'[i]? = some x → x.ws m
  | [], _, i, x, h => by cases h
  | y :: r, hr, i, x, h => by
    cases i with
    | zero => simp only [List.getElem?_cons_zero, Option.some.injEq] at h; subst h; exact hr.1
    | succ i => exact wsAllH_get r hr.2 i x h
theorem nodupB_spec : ∀ (l : List Nat), nodupB l = true → ∀ (i j x : Nat), l[i]? = some x → l[j]? = some x → i = j
  | [], _, i, j, x, hi, _ => by cases hi
  | y :: r, h, i, j, x, hi, hj => by
    simp only [nodupB, Bool.and_eq_true, Bool.not_eq_true'] at h
    have hno : ∀ k, r[k]? = some y → False := fun k hk => by
      have := h.1
      rw [Bool.eq_false_iff] at this
      exact this (List.any_eq_true.2 ⟨y, List.mem_of_getElem? hk, by simp⟩)
    cases i with
    | zero =>
      simp only [List.getElem?_cons_zero, Option.some.injEq] at hi
      subst hi
      cases j with
      | zero => rfl
      | succ j => exact (hno j hj).elim
    | succ i =>
      cases j with
      | zero =>
        simp only [List.getElem?_cons_zero, Option.some.injEq] at hj
        subst hj
        exact (hno i hi).elim
      | succ j => rw [nodupB_spec r h.2 i j x hi hj]

theorem renH_sat {π : List Nat} {e : Env} {i j : Nat} {w : World} {x : HO} (hij : π[i]? = some j) (h : (renH π x).sat e j w) : x.sat (renEnv π e) i w := by
  cases x with
  | cells cs T =>
    simp only [HO.sat, renH] at h ⊢
    rw [denL_ren]
    have : (renEnv π e).blk i = e.blk j := by simp [renEnv, hij]
    rw [this]
    exact h
  | row T sz n xs =>
    simp only [HO.sat, renH] at h ⊢
    rw [denL_ren]
    have : (renEnv π e).row i = e.row j := by simp [renEnv, hij]
    rw [this]
    exact h
  | obj o =>
    simp only [HO.sat, renH] at h ⊢
    have : (renEnv π e).blk i = e.blk j := by simp [renEnv, hij]
    rw [this]
    exact h
  | gone => trivial
theorem renH_own {π : List Nat} {e : Env} {i j : Nat} {x : HO} (hij : π[i]? = some j) : x.own (renEnv π e) i = (renH π x).own e j := by
  have h1 : (renEnv π e).blk i = e.blk j := by simp [renEnv, hij]
  have h2 : (renEnv π e).row i = e.row j := by simp [renEnv, hij]
  cases x <;> simp [HO.own, renH, h1, h2]

theorem Ok.weaken (hF : Mono F) {k : List It} {st : St} (π : List Nat) (st' : St) (hT : RenT π st.tm st'.tm) (hH : RenH π st.heap st'.heap π)
    (hn : nodupB π = true) (hw : wsAllT st'.heap.length st'.tm ∧ wsAllH st'.heap.length st'.heap) (h : Ok P B n F w0 fin k st') : Ok P B n F w0 fin k st := by
  intro e a w S T
  refine h (renEnv π e) a w ?_ ?_
  · refine ⟨S.os, S.tape, S.output, ?_, fun i x hx => wsAllH_get _ hw.2 i x hx, ?_, ?_⟩
    · intro i x hx
      obtain ⟨j, hj, hx'⟩ := RenH_get _ _ hH i x hx
      exact renH_sat hj (S.sat j _ hx')
    · intro i i2 x x2 b hx hx2 hb hb2
      obtain ⟨j, hj, hx'⟩ := RenH_get _ _ hH i x hx
      obtain ⟨j2, hj2, hx2'⟩ := RenH_get _ _ hH i2 x2 hx2
      rw [renH_own hj] at hb
      rw [renH_own hj2] at hb2
      have := S.one j j2 _ _ b hx' hx2' hb hb2
      subst this
      exact nodupB_spec π hn i i2 j hj hj2
    · refine hF _ _ ?_ S.fact
      intro b o hb
      unfold mem at hb ⊢
      split at hb
      · cases hb
      · rename_i hno
        rw [if_neg, hb]
        rintro ⟨i, x, hx, hb2⟩
        obtain ⟨j, hj, hx'⟩ := RenH_get _ _ hH i x hx
        rw [renH_own hj] at hb2
        exact hno ⟨j, _, hx', hb2⟩
  · refine ⟨T.size, T.defers, fun t s hs => ?_, fun t s hs => wsAllT_get _ hw.1 t s hs⟩
    rw [den_ren]
    exact T.get t _ (RenT_get _ hT t s hs)

/-! ### the beginning -/
theorem mem_nil (w : World) (e : Env) : mem w e [] = wmem w := by
  funext b
  unfold mem wmem
  rw [if_neg]
  rintro ⟨i, ho, hi, _⟩
  cases hi
def argsTm : Nat → List Value → List (Nat × SV)
  | _, [] => []
  | i, v :: r => (i, .v v) :: argsTm (i + 1) r
theorem lk_args : ∀ (l : List Value) (i t : Nat) (s : SV), lk (argsTm i l) t = some s → ∃ v, s = .v v ∧ i ≤ t ∧ l[t - i]? = some v
  | [], i, t, s, h => by cases h
  | v :: r, i, t, s, h => by
    simp only [argsTm, lk] at h
    cases hb : Nat.beq i t with
    | true =>
      rw [hb] at h
      simp only [cond_true, Option.some.injEq] at h
      subst h
      have := Nat.eq_of_beq_eq_true hb
      subst this
      exact ⟨v, rfl, Nat.le_refl _, by simp⟩
    | false =>
      rw [hb] at h
      obtain ⟨u, h1, h2, h3⟩ := lk_args r (i + 1) t s h
      refine ⟨u, h1, by omega, ?_⟩
      rw [show t - i = (t - (i + 1)) + 1 by omega, List.getElem?_cons_succ]
      exact h3

theorem calls_of_ok {f : FuncId} {fn : Func} {R : Ending → World → Prop} {w : World} {args : List Value} (hf : P.funcs[f]? = some fn) (hb : fn.body = some B) (hn : fn.ntmps = n) (hle : Nat.ble args.length n = true)
    (hw : F (wmem w)) (h : Ok P B n F w (bodyPost P fn R) [.at []] ⟨argsTm 0 args, []⟩) : Calls P f args.toArray w R := by
  have hle' : args.length ≤ n := Nat.le_of_ble_eq_true hle
  refine calls_of_wp hf hb ?_
  have S : SatH F w [] ⟨fun _ => 0, fun _ => undef⟩ w := ⟨rfl, rfl, rfl, fun i ho hi => (by cases hi), fun i ho hi => (by cases hi), fun i j ho ho' b hi => (by cases hi), (by rw [mem_nil]; exact hw)⟩
  have := h ⟨fun _ => 0, fun _ => undef⟩ { tmps := args.toArray ++ Array.replicate (fn.ntmps - args.toArray.size) undef, defers := [] } w S ⟨?_, rfl, ?_, ?_⟩
  · simpa [post, sub] using this
  · simp [hn]
    omega
  · intro t s hs
    obtain ⟨v, rfl, _, hv⟩ := lk_args args 0 t s hs
    simp only [Nat.sub_zero] at hv
    have hlt := (List.getElem?_eq_some_iff.1 hv).1
    rw [Array.getElem?_append_left (by simpa using hlt)]
    simpa [den] using hv
  · intro t s hs
    obtain ⟨v, rfl, _⟩ := lk_args args 0 t s hs
    trivial
end
end Go.Sx
