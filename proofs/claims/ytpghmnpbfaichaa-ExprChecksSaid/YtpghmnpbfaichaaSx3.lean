/- The operations that write nothing, one by one. -/
import Derived.Test.YtpghmnpbfaichaaSx2
namespace Go.Sx
open Go.RowKit

abbrev QR := Option (SV × List Side × List Dec)

def mkInts : List IntKind → List Int → List Value
  | k :: ks, x :: xs => .int k x :: mkInts ks xs
  | _, _ => []
def unInts : List IntKind → List Value → Option (List Int)
  | [], [] => some []
  | k :: ks, .int k' x :: xs => bif decide (k = k') then (match unInts ks xs with | some l => some (x :: l) | none => none) else none
  | _, _ => none
theorem unInts_sound : ∀ (ks : List IntKind) (vs : List Value) {xs : List Int}, unInts ks vs = some xs → vs = mkInts ks xs ∧ xs.length = ks.length
  | [], [], xs, h => by simp only [unInts, Option.some.injEq] at h; subst h; exact ⟨rfl, rfl⟩
  | k :: ks, .int k' x :: vs, xs, h => by
    simp only [unInts] at h
    by_cases hk : k = k'
    · subst hk
      simp only [decide_true, cond_true] at h
      cases hr : unInts ks vs with
      | none => simp [hr] at h
      | some l =>
        simp only [hr, Option.some.injEq] at h
        subst h
        obtain ⟨h1, h2⟩ := unInts_sound ks vs hr
        exact ⟨by simp [mkInts, ← h1], by simp [h2]⟩
    · simp [hk] at h
  | [], _ :: _, xs, h => by simp [unInts] at h
  | _ :: _, [], xs, h => by simp [unInts] at h
  | _ :: _, .bool _ :: _, xs, h => by simp [unInts] at h
  | _ :: _, .float _ _ :: _, xs, h => by simp [unInts] at h
  | _ :: _, .complex _ _ _ :: _, xs, h => by simp [unInts] at h
  | _ :: _, .string _ :: _, xs, h => by simp [unInts] at h
  | _ :: _, .pointer _ :: _, xs, h => by simp [unInts] at h
  | _ :: _, .slice _ _ _ :: _, xs, h => by simp [unInts] at h
  | _ :: _, .map _ :: _, xs, h => by simp [unInts] at h
  | _ :: _, .chan _ :: _, xs, h => by simp [unInts] at h
  | _ :: _, .func _ _ _ :: _, xs, h => by simp [unInts] at h
  | _ :: _, .nilFunc :: _, xs, h => by simp [unInts] at h
  | _ :: _, .iface _ _ :: _, xs, h => by simp [unInts] at h
  | _ :: _, .nilIface :: _, xs, h => by simp [unInts] at h
  | _ :: _, .agg _ :: _, xs, h => by simp [unInts] at h
  | _ :: _, .tuple _ :: _, xs, h => by simp [unInts] at h

/-- What the seat knows beside: functions without a body; '==' at types of integers. -/
structure Ext (P : Program) where
  ext : FuncId → List Value → Option (Value × Prop)
  extOk : ∀ f vs v p w, ext f vs = some (v, p) → p → (callFunc f vs.toArray).run P w = .ok (.value v) w
  eq : TypeId → Option (List IntKind)
  eqOk : ∀ t ks xs ys (x y : Operand) w, eq t = some ks → xs.length = ks.length → ys.length = ks.length →
    (do eqGuard .eql t x y (.agg (mkInts ks xs).toArray) (.agg (mkInts ks ys).toArray); binOp .eql t (.agg (mkInts ks xs).toArray) (.agg (mkInts ks ys).toArray)).run P w = .ok (.bool (decide (xs = ys))) w ∧
    (do eqGuard .neq t x y (.agg (mkInts ks xs).toArray) (.agg (mkInts ks ys).toArray); binOp .neq t (.agg (mkInts ks xs).toArray) (.agg (mkInts ks ys).toArray)).run P w = .ok (.bool (!decide (xs = ys))) w

/-! ### all operands plain: the model's own reckoning -/
def rho (tm : List (Nat × SV)) (x : Operand) : Value := match evO tm x with | some s => (plain s).getD undef | none => undef
def plainO (tm : List (Nat × SV)) (x : Operand) : Bool := match evO tm x with | some s => (plain s).isSome | none => false
def notSelect : Op → Bool
  | .select .. => false
  | _ => true
def xgen (P : Program) (tm : List (Nat × SV)) (D : List Dec) (o : Oper) : QR :=
  bif notSelect o.op && o.op.operands.toList.all (plainO tm) then
    match prun P (execOp (rho tm) o) with
    | some (.value v) => some (.v v, [], D)
    | _ => none
  else none

section
variable {P : Program} {tm : List (Nat × SV)} {n hl : Nat} {e : Env} {a : Act} {w : World} {D D' : List Dec} {s : SV} {sd : List Side}

theorem rho_eval (T : TSat n hl tm e a) {x : Operand} (h : plainO tm x = true) : rho tm x = a.eval x := by
  unfold plainO at h
  unfold rho
  cases hx : evO tm x with
  | none => simp [hx] at h
  | some s =>
    simp only [hx] at h ⊢
    cases hp : plain s with
    | none => simp [hp] at h
    | some v => rw [(evO_sound T hx).1, plain_sound e s hp]; rfl

theorem xgen_sound (T : TSat n hl tm e a) {o : Oper} (h : xgen P tm D o = some (s, sd, D')) :
    (execOp a.eval o).run P w = .ok (.value (den e s)) w ∧ ws hl s := by
  unfold xgen at h
  cases hb : notSelect o.op && o.op.operands.toList.all (plainO tm) with
  | false => rw [hb] at h; cases h
  | true =>
    simp only [hb, cond_true] at h
    rw [Bool.and_eq_true] at hb
    have hcon : execOp (rho tm) o = execOp a.eval o := by
      refine execOp_congr o (fun cs b hh => ?_) (fun x hx => rho_eval T (List.all_eq_true.1 hb.2 x (Array.mem_toList_iff.2 hx)))
      have := hb.1
      rw [hh] at this
      cases this
    split at h
    · rename_i v hv
      simp only [Option.some.injEq, Prod.mk.injEq] at h
      obtain ⟨rfl, rfl, rfl⟩ := h
      rw [hcon] at hv
      exact ⟨prun_sound hv w, trivial⟩
    · cases h
end

/-! ### the shapes of results -/
def evInt (tm : List (Nat × SV)) (x : Operand) : Option (IntKind × Int) :=
  match evO tm x with
  | some (.v (.int k n)) => some (k, n)
  | _ => none
def evPlain (tm : List (Nat × SV)) (x : Operand) : Option Value :=
  match evO tm x with
  | some s => plain s
  | none => none
section
variable {P : Program} {tm : List (Nat × SV)} {n hl : Nat} {e : Env} {a : Act} {w : World}
theorem evInt_sound (T : TSat n hl tm e a) {x : Operand} {k : IntKind} {m : Int} (h : evInt tm x = some (k, m)) : a.eval x = .int k m := by
  unfold evInt at h
  split at h
  · rename_i k' m' hx
    simp only [Option.some.injEq, Prod.mk.injEq] at h
    obtain ⟨rfl, rfl⟩ := h
    exact (evO_sound T hx).1
  · cases h
theorem evPlain_sound (T : TSat n hl tm e a) {x : Operand} {v : Value} (h : evPlain tm x = some v) : a.eval x = v := by
  unfold evPlain at h
  split at h
  · rename_i s hx
    rw [(evO_sound T hx).1, plain_sound e s h]
  · cases h
end

/-- Integer operations whose test is a side condition. -/
def xint (op : BinOp) (k : IntKind) (x : Int) (y : Int) (D : List Dec) : QR :=
  match op with
  | .shl => some (.v (.int k (k.wrap (x * 2 ^ (min y.toNat k.bits)))), [fun _ => ¬ y < 0], D)
  | .shr => some (.v (.int k (x.fdiv (2 ^ (min y.toNat k.bits)))), [fun _ => ¬ y < 0], D)
  | .quo => some (.v (.int k (k.wrap (x.tdiv y))), [fun _ => ¬ y = 0], D)
  | .rem => some (.v (.int k (x.tmod y)), [fun _ => ¬ y = 0], D)
  | _ => none

def isRow : Option HO → Bool
  | some (.row ..) => true
  | _ => false
def cellsOfSV (h : List HO) : SV → Option (List SV)
  | .agg cs => some cs
  | .v (.agg cs) => some (cs.toList.map SV.v)
  | .v (.tuple _) => none
  | .tup _ => none
  | .v (.bool b) => some [.v (.bool b)]
  | .v (.int k x) => some [.v (.int k x)]
  | .v (.string x) => some [.v (.string x)]
  | .v (.pointer x) => some [.v (.pointer x)]
  | .v (.slice x l c) => some [.v (.slice x l c)]
  | .v (.map x) => some [.v (.map x)]
  | .v (.iface t x) => some [.v (.iface t x)]
  | .v .nilIface => some [.v .nilIface]
  | .v (.func f x c) => some [.v (.func f x c)]
  | .v .nilFunc => some [.v .nilFunc]
  | .v _ => none
  | .o i => bif isRow h[i]? then some [.o i] else none
  | s => some [s]
theorem denL_mapv (e : Env) (l : List Value) : denL e (l.map SV.v) = l := by
  induction l with
  | nil => rfl
  | cons x r ih => simp [denL, den, ih]
theorem wsL_mapv (n : Nat) (l : List Value) : wsL n (l.map SV.v) := by
  induction l with
  | nil => trivial
  | cons x r ih => exact ⟨trivial, ih⟩

theorem row_slice {F : Mem → Prop} {h : List HO} {e : Env} {w : World} (S : SatQ F h e w) {i : Nat} (hi : isRow h[i]? = true) : ∃ oa n c, e.row i = .slice oa n c := by
  unfold isRow at hi
  split at hi
  · rename_i T size n xs hr
    obtain ⟨⟨_, hr2⟩, _⟩ := S.sat i _ hr
    rcases hr2 with ⟨hv, _⟩ | ⟨g, cap, cur, hv, _⟩
    · exact ⟨_, _, _, hv⟩
    · exact ⟨_, _, _, hv⟩
  · cases hi

theorem cellsOfSV_sound {F : Mem → Prop} {h : List HO} {e : Env} {w : World} (S : SatQ F h e w) {s : SV} {cs : List SV} (hc : cellsOfSV h s = some cs) :
    (den e s).cells = (denL e cs).toArray ∧ (∀ n, ws n s → wsL n cs) := by
  cases s with
  | v x =>
    cases x <;> simp only [cellsOfSV, Option.some.injEq, reduceCtorEq] at hc <;> subst hc
    case agg c =>
      refine ⟨?_, fun n _ => wsL_mapv n _⟩
      rw [denL_mapv]
      simp [den, Value.cells]
    all_goals exact ⟨rfl, fun _ _ => ⟨trivial, trivial⟩⟩
  | agg c => simp only [cellsOfSV, Option.some.injEq] at hc; subst hc; exact ⟨rfl, fun n hn => hn⟩
  | tup c => cases hc
  | o i =>
    simp only [cellsOfSV] at hc
    cases hr : isRow h[i]? with
    | false => rw [hr] at hc; cases hc
    | true =>
      rw [hr] at hc
      simp only [cond_true, Option.some.injEq] at hc
      subst hc
      obtain ⟨oa, n, c, hv⟩ := row_slice S hr
      refine ⟨?_, fun n hn => ⟨hn, trivial⟩⟩
      simp only [den, denL, hv]
      rfl
  | q i off =>
    simp only [cellsOfSV, Option.some.injEq] at hc
    subst hc
    refine ⟨?_, fun n hn => ⟨hn, trivial⟩⟩
    simp only [den, denL]
    split <;> rfl
  | bl b => simp only [cellsOfSV, Option.some.injEq] at hc; subst hc; exact ⟨rfl, fun n hn => ⟨hn, trivial⟩⟩
  | p i off => simp only [cellsOfSV, Option.some.injEq] at hc; subst hc; exact ⟨rfl, fun n hn => ⟨hn, trivial⟩⟩
  | m i => simp only [cellsOfSV, Option.some.injEq] at hc; subst hc; exact ⟨rfl, fun n hn => ⟨hn, trivial⟩⟩
  | sl i off l c => simp only [cellsOfSV, Option.some.injEq] at hc; subst hc; exact ⟨rfl, fun n hn => ⟨hn, trivial⟩⟩
  | fn f a c => simp only [cellsOfSV, Option.some.injEq] at hc; subst hc; exact ⟨rfl, fun n hn => ⟨hn, trivial⟩⟩
  | ifc t y => simp only [cellsOfSV, Option.some.injEq] at hc; subst hc; exact ⟨rfl, fun n hn => ⟨hn, trivial⟩⟩
end Go.Sx
