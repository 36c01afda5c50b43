/- The end of a run: what is answered. -/
import Derived.Test.YtpghmnpbfaichaaSx19
namespace Go.Sx
open Go.RowKit Go.Pl

def bodyOf (fn : Func) : Code := fn.body.getD .skip
structure End where
  as : List Prop
  sd : List Side
  r : SV
  h : List HO

def endOf (P : Program) (rs : List ResultVar) (l : Leaf2) : Option End :=
  match l.k with
  | [] => (xres P l.st rs).map fun s => ⟨l.as, l.sd, s, l.st.heap⟩
  | .ret :: _ => (xres P l.st rs).map fun s => ⟨l.as, l.sd, s, l.st.heap⟩
  | _ => none
def ends (P : Program) (rs : List ResultVar) : List Leaf2 → Option (List End)
  | [] => some []
  | l :: r => match endOf P rs l, ends P rs r with
    | some x, some y => some (x :: y)
    | _, _ => none
/-- What is answered, looked at. -/
structure EndP where
  as : List Prop
  sd : List Side
  r : Res
def rowAt (h : List HO) (i : Nat) (mk : TypeId → Nat → Nat → List Value → Res) : Option (Res × List Side) :=
  match h[i]? with
  | some (.row T sz n xs) => some (mk T sz n (unv xs), [fun (_ : Mem) => xs = (unv xs).map SV.v])
  | _ => none
def resOfS (h : List HO) (s : SV) : Option (Res × List Side) :=
  match plain s with
  | some v => some (.v v, [])
  | none => match s with
    | .o i => rowAt h i .r
    | .tup (.o i :: rest) => match plainL rest with
      | some vs => rowAt h i (fun T sz n cs => .rt T sz n cs vs)
      | none => none
    | _ => none
def plainE : List End → Option (List EndP)
  | [] => some []
  | x :: r => match resOfS x.h x.r, plainE r with
    | some (v, s), some y => some (⟨x.as, x.sd ++ s, v⟩ :: y)
    | _, _ => none

def AllP (F : Mem → Prop) (R : Res → Prop) : List EndP → Prop
  | [] => True
  | x :: r => ((∀ a ∈ x.as, a) → hold F x.sd ∧ R x.r) ∧ AllP F R r

section
variable {P : Program} {X : Ext P} {B : Code} {n : Nat} {C : Con P} {U : List (List Nat × Nat)}

theorem ends_spec {rs : List ResultVar} : ∀ {L : List Leaf2} {E : List End}, ends P rs L = some E → ∀ l ∈ L, ∃ x ∈ E, endOf P rs l = some x
  | [], _, _, l, hl => by cases hl
  | z :: r, E, h, l, hl => by
    simp only [ends] at h
    split at h
    · rename_i x y hx hy
      simp only [Option.some.injEq] at h
      subst h
      rcases List.mem_cons.1 hl with rfl | hl
      · exact ⟨x, List.mem_cons_self, hx⟩
      · obtain ⟨x', q1, q2⟩ := ends_spec hy l hl
        exact ⟨x', List.mem_cons_of_mem _ q1, q2⟩
    · cases h
theorem plainE_spec : ∀ {E : List End} {Q : List EndP}, plainE E = some Q → ∀ x ∈ E, ∃ v s, resOfS x.h x.r = some (v, s) ∧ (⟨x.as, x.sd ++ s, v⟩ : EndP) ∈ Q
  | [], _, _, l, hl => by cases hl
  | z :: r, Q, h, l, hl => by
    simp only [plainE] at h
    split at h
    · rename_i v s y hx hy
      simp only [Option.some.injEq] at h
      subst h
      rcases List.mem_cons.1 hl with rfl | hl
      · exact ⟨v, s, hx, List.mem_cons_self⟩
      · obtain ⟨x', s', q1, q2⟩ := plainE_spec hy l hl
        exact ⟨x', s', q1, List.mem_cons_of_mem _ q2⟩
    · cases h
theorem AllP.get {F : Mem → Prop} {R : Res → Prop} : ∀ {Q : List EndP}, AllP F R Q → ∀ x ∈ Q, (∀ a ∈ x.as, a) → hold F x.sd ∧ R x.r
  | [], _, x, hx => by cases hx
  | z :: r, h, x, hx => by
    rcases List.mem_cons.1 hx with rfl | hx
    · exact h.1
    · exact h.2.get x hx

theorem endOf_ok {F : Mem → Prop} {w0 : World} {fn : Func} {R : Ending → World → Prop} {l : Leaf2} {x : End} (h : endOf P fn.results.toList l = some x)
    (hR : ∀ e w, SatH F w0 x.h e w → R (.returned (den e x.r)) w) : x.as = l.as ∧ x.sd = l.sd ∧ Ok P B n F w0 (bodyPost P fn R) l.k l.st := by
  obtain ⟨as, sd, k, st⟩ := l
  unfold endOf at h
  simp only at h
  split at h
  · cases hx : xres P st fn.results.toList with
    | none => rw [hx] at h; cases h
    | some s =>
      rw [hx] at h
      simp only [Option.map_some, Option.some.injEq] at h
      subst h
      exact ⟨rfl, rfl, Ok.done s hx hR⟩
  · cases hx : xres P st fn.results.toList with
    | none => rw [hx] at h; cases h
    | some s =>
      rw [hx] at h
      simp only [Option.map_some, Option.some.injEq] at h
      subst h
      exact ⟨rfl, rfl, Ok.ret s hx hR⟩
  · cases h

theorem hold_at {F : Mem → Prop} {sd : List Side} (h : hold F sd) : hold F sd := h

theorem rowAt_ok {F : Mem → Prop} {w0 w : World} {h : List HO} {e : Env} (hG : ∀ M, F M → (wmem w0).le M) (S : SatH F w0 h e w) {i : Nat} {mk : TypeId → Nat → Nat → List Value → Res} {r : Res} {s : List Side} (hr : rowAt h i mk = some (r, s)) (hs : hold F s) :
    ∃ T sz n cs, r = mk T sz n cs ∧ newRow w0 w T sz (e.row i) n cs := by
  unfold rowAt at hr
  cases hi : h[i]? with
  | none => rw [hi] at hr; cases hr
  | some ho =>
    rw [hi] at hr
    cases ho with
    | row T sz n xs =>
        simp only [Option.some.injEq, Prod.mk.injEq] at hr
        obtain ⟨rfl, rfl⟩ := hr
        have hxs : xs = (unv xs).map SV.v := hs _ List.mem_cons_self _ S.fact
        refine ⟨T, sz, n, unv xs, rfl, ?_⟩
        obtain ⟨⟨q1, q2⟩, q3⟩ := S.sat i _ hi
        rw [hxs, denL_mapv] at q1 q2 q3
        refine ⟨⟨q1, ?_⟩, q3⟩
        rcases q2 with q2 | ⟨g, cap, cur, hv, _, hg, rest⟩
        · exact .inl q2
        · refine .inr ⟨g, cap, cur, hv, ?_, hg, rest⟩
          refine Nat.le_of_not_lt fun hlt => ?_
          have := hG _ S.fact g _ (Array.getElem?_eq_getElem hlt)
          unfold mem at this
          rw [if_pos] at this
          · cases this
          · exact ⟨i, _, hi, by simp [HO.own, hv, Value.ownBlock]⟩
    | _ => cases hr
theorem resOfS_ok {F : Mem → Prop} {w0 w : World} {h : List HO} {e : Env} (hG : ∀ M, F M → (wmem w0).le M) (S : SatH F w0 h e w) {s : SV} {r : Res} {sd : List Side} (hr : resOfS h s = some (r, sd)) (hs : hold F sd) : r.ok w0 w (den e s) := by
  unfold resOfS at hr
  cases hp : plain s with
  | some v =>
    rw [hp] at hr
    simp only [Option.some.injEq, Prod.mk.injEq] at hr
    obtain ⟨rfl, rfl⟩ := hr
    exact plain_sound e s hp
  | none =>
    rw [hp] at hr
    simp only at hr
    split at hr
    · rename_i i
      obtain ⟨T, sz, n, cs, rfl, q⟩ := rowAt_ok hG S hr hs
      exact q
    · rename_i i rest
      cases hv : plainL rest with
      | none => rw [hv] at hr; cases hr
      | some vs =>
        rw [hv] at hr
        obtain ⟨T, sz, n, cs, rfl, q⟩ := rowAt_ok hG S hr hs
        exact ⟨_, by simp only [den, denL, plainL_sound e rest hv], q⟩
    · cases hr

/-- A run, from any state, to its results. -/
theorem ok_plain (hm : P.follows .mixedOrders = true) {F : Mem → Prop} (hF : Mono F) {w0 : World} {fn : Func} {R : Res → Prop} (hG : ∀ M, F M → (wmem w0).le M) (fuel : Nat) (D : List Dec) (T : Tree) (k : List It) (st : St) {Q : List EndP}
    (h : (((xgo P X B n C U fuel D T k st [] []).bind (ends P fn.results.toList)).bind plainE) = some Q) (hQ : AllP F R Q) :
    Ok P B n F w0 (bodyPost P fn fun E w' => ∃ v r, E = .returned v ∧ R r ∧ r.ok w0 w' v ∧ Below w0.heap.size w0 w') k st := by
  cases h1 : xgo P X B n C U fuel D T k st [] [] with
  | none => rw [h1] at h; cases h
  | some L =>
    rw [h1, Option.bind_some] at h
    cases h2 : ends P fn.results.toList L with
    | none => rw [h2] at h; cases h
    | some E =>
      rw [h2, Option.bind_some] at h
      refine (xgo_sound hm hF finB fuel D T k st [] [] L h1 (fun l hl has => ?_) (fun a ha => by cases ha)).2
      obtain ⟨x, hx, he⟩ := ends_spec h2 l hl
      obtain ⟨v, s, hv, hq⟩ := plainE_spec h x hx
      have hg := hQ.get _ hq
      simp only at hg
      have e1 := (endOf_ok (B := B) (n := n) (F := fun _ => False) (w0 := w0) (fn := fn) (R := fun _ _ => True) he (fun e w _ => trivial))
      rw [e1.1, e1.2.1] at hg
      obtain ⟨g1, g2⟩ := hg has
      refine ⟨fun y hy => g1 y (List.mem_append_left _ hy), ?_⟩
      refine (endOf_ok he (fun e w S => ?_)).2.2
      exact ⟨_, v, rfl, g2, resOfS_ok hG S hv (fun y hy => g1 y (List.mem_append_right _ hy)), below_of hG S⟩

theorem calls_plain (hm : P.follows .mixedOrders = true) {f : FuncId} {fn : Func} {R : Res → Prop} {w : World} {args : List Value} (hf : P.funcs[f]? = some fn) (hb : fn.body = some B) (hn : fn.ntmps = n) (hle : Nat.ble args.length n = true)
    (fuel : Nat) (D : List Dec) (T : Tree) {Q : List EndP}
    (h : (((xgo P X B n C U fuel D T [.at []] ⟨argsTm 0 args, []⟩ [] []).bind (ends P fn.results.toList)).bind plainE) = some Q) (hQ : AllP (F0 w) R Q) :
    Calls P f args.toArray w (fun E w' => ∃ v r, E = .returned v ∧ R r ∧ r.ok w w' v ∧ Below w.heap.size w w') :=
  calls_of_ok hf hb hn hle (F := F0 w) (fun _ _ h => h) (ok_plain hm (F0.mono w) (fun _ h => h) fuel D T _ _ h hQ)

theorem hold_nil {F : Mem → Prop} : hold F [] ↔ True := ⟨fun _ => trivial, fun _ s hs => by cases hs⟩
theorem hold_cons {F : Mem → Prop} {s : Side} {l : List Side} : hold F (s :: l) ↔ (∀ M, F M → s M) ∧ hold F l :=
  ⟨fun h => ⟨h s List.mem_cons_self, fun t ht => h t (List.mem_cons_of_mem _ ht)⟩, fun h t ht => by
    rcases List.mem_cons.1 ht with rfl | ht
    · exact h.1
    · exact h.2 t ht⟩

/-- One known function more. -/
def Con.add (C : Con P) (f : FuncId) (g : List RV → Option (Res × Prop))
    (hg : ∀ rvs r p vs w, g rvs = some (r, p) → p → RVs (wmem w) rvs vs → Calls P f vs.toArray w (fun E w' => ∃ v, E = .returned v ∧ r.ok w w' v ∧ Below w.heap.size w w')) : Con P where
  con := fun f' rvs => bif Nat.beq f' f then g rvs else C.con f' rvs
  ok := by
    intro f' rvs r p vs w h hp hv
    cases hb : Nat.beq f' f with
    | true =>
      rw [hb] at h
      have := Nat.eq_of_beq_eq_true hb
      subst this
      exact hg rvs r p vs w h hp hv
    | false =>
      rw [hb] at h
      exact C.ok f' rvs r p vs w h hp hv
/-- From a run with a known result to a contract's end. -/
theorem con_end {f : FuncId} {args : List Value} {w : World} {r0 : Res} (h : Calls P f args.toArray w (fun E w' => ∃ v r, E = .returned v ∧ r = r0 ∧ r.ok w w' v ∧ Below w.heap.size w w')) :
    Calls P f args.toArray w (fun E w' => ∃ v, E = .returned v ∧ r0.ok w w' v ∧ Below w.heap.size w w') :=
  h.mono fun _ _ ⟨v, _, h1, h2, h3, h4⟩ => ⟨v, h1, h2 ▸ h3, h4⟩
end
end Go.Sx
