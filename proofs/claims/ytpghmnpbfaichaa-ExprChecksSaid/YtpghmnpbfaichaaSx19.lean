/- The run with loops of known length unrolled, calls of known functions, and both ways where a condition is open. -/
import Derived.Test.YtpghmnpbfaichaaSx18
namespace Go.Sx
open Go.RowKit Go.Pl

/-- What a function has caught: a value, or a pointer to known cells. -/
inductive Cp where
  | v (x : Value)
  | b (vs : List Value) (d : Option AD)
/-- What a call is given: a value, or a row of so many elements, whose cells are known. -/
inductive RV where
  | v (x : Value)
  | r (n : Nat) (cs : List Value)
  | c (x : Value) (d : AD)
  | b (vs : List Value) (d : Option AD)
  | k (f : FuncId) (caps : List Cp)
/-- What a call hands back: a value, or a new row, or a new row with values beside it. -/
inductive Res where
  | v (r : Value)
  | r (T : TypeId) (sz n : Nat) (cs : List Value)
  | rt (T : TypeId) (sz n : Nat) (cs : List Value) (rest : List Value)

/-- A pointer to known cells, and what they stand for. -/
def ptrAt (M : Mem) (v : Value) (vs : List Value) (d : Option AD) : Prop := ∃ oa, v = .pointer oa ∧ MCells M oa vs ∧ ∀ x, d = some x → adAt M (.agg vs.toArray) x
def capAt (M : Mem) (v : Value) : Cp → Prop
  | .v x => v = x
  | .b vs d => ptrAt M v vs d
def capsAt (M : Mem) : List Cp → List Value → Prop
  | [], [] => True
  | x :: r, v :: t => capAt M v x ∧ capsAt M r t
  | _, _ => False
def RVs (M : Mem) : List RV → List Value → Prop
  | [], [] => True
  | .v x :: r, v :: vs => v = x ∧ RVs M r vs
  | .r n cs :: r, v :: vs => reads M n cs v ∧ RVs M r vs
  | .c x d :: r, v :: vs => (v = x ∧ adAt M x d) ∧ RVs M r vs
  | .b cs d :: r, v :: vs => ptrAt M v cs d ∧ RVs M r vs
  | .k f caps :: r, v :: vs => (∃ ps : List Value, v = .func (.func f) #[] ps.toArray ∧ capsAt M caps ps) ∧ RVs M r vs
  | _, _ => False
def newRow (w w' : World) (T : TypeId) (sz : Nat) (v : Value) (n : Nat) (cs : List Value) : Prop := w'.ownsRow w.heap.size T sz v n cs ∧ ∀ u ∈ cs, u.oneCell' = true
def Res.ok (w w' : World) : Res → Value → Prop
  | .v x, y => y = x
  | .r T sz n cs, y => newRow w w' T sz y n cs
  | .rt T sz n cs rest, y => ∃ u, y = .tuple (u :: rest).toArray ∧ newRow w w' T sz u n cs

structure Con (P : Program) where
  con : FuncId → List RV → Option (Res × Prop)
  ok : ∀ f rvs r p vs w, con f rvs = some (r, p) → p → RVs (wmem w) rvs vs → Calls P f vs.toArray w (fun E w' => ∃ v, E = .returned v ∧ r.ok w w' v ∧ Below w.heap.size w w')

end Go.Sx
namespace Go.Pl
open Go.Sx
/-- The values of cells, where they are plain. -/
def unv (xs : List SV) : List Value := xs.map fun s => (plain s).getD undef
theorem unv_mapv (l : List Value) : unv (l.map SV.v) = l := by
  induction l with
  | nil => rfl
  | cons x r ih =>
    simp only [unv, List.map_cons] at ih ⊢
    rw [ih]
    rfl
end Go.Pl
namespace Go.Sx
open Go.RowKit Go.Pl
/-- The arguments of a call, looked at. -/
def argPl (D : List Dec) (x : Value) : RV × List Side × List Dec :=
  match D with
  | .lx cs :: D1 => match x with
    | .slice oa n _ => (.r n cs, [fun M => cs = [] ∨ MCells M oa cs], D1)
    | .pointer oa => match D1 with
      | .ab d :: D2 => (.b cs (some d), [fun M => MCells M oa cs ∧ adAt M (.agg cs.toArray) d], D2)
      | _ => (.b cs none, [fun M => MCells M oa cs], D1)
    | .func (.func f) ⟨[]⟩ ⟨[.pointer oa]⟩ => match D1 with
      | .ab d :: D2 => (.k f [.b cs (some d)], [fun M => MCells M oa cs ∧ adAt M (.agg cs.toArray) d], D2)
      | _ => (.k f [.b cs none], [fun M => MCells M oa cs], D1)
    | _ => (.v x, [], D)
  | .ab d :: D1 => (.c x d, [fun M => adAt M x d], D1)
  | _ => (.v x, [], D)
/-- A pointer to own cells. -/
def ownPtr (h : List HO) (D : List Dec) (i off : Nat) : Option (List Value × Option AD × List Side × List Dec) :=
  match h[i]? with
  | some (.cells xs _) => match D with
    | .ab d :: D1 => some (unv (xs.drop off), some d, [fun (_ : Mem) => xs.drop off = (unv (xs.drop off)).map SV.v, fun M => adAt M (.agg (unv (xs.drop off)).toArray) d], D1)
    | _ => some (unv (xs.drop off), none, [fun (_ : Mem) => xs.drop off = (unv (xs.drop off)).map SV.v], D)
  | _ => none
def capRv (h : List HO) (D : List Dec) (a : SV) : Option (Cp × List Side × List Dec) :=
  match a with
  | .p i off => match ownPtr h D i off with
    | some (vs, d, s, D1) => some (.b vs d, s, D1)
    | none => none
  | s => match plain s with
    | some x => some (.v x, [], D)
    | none => none
def capsRv (h : List HO) : List Dec → List SV → Option (List Cp × List Side × List Dec)
  | D, [] => some ([], [], D)
  | D, a :: r => match capRv h D a with
    | some (x, s1, D1) => match capsRv h D1 r with
      | some (l, s, D') => some (x :: l, s1 ++ s, D')
      | none => none
    | none => none
def argRv (h : List HO) (D : List Dec) (a : SV) : Option (RV × List Side × List Dec) :=
  match a with
  | .p i off => match ownPtr h D i off with
    | some (vs, d, s, D1) => some (.b vs d, s, D1)
    | none => none
  | .fn (.func f) [] (c :: cr) => match capsRv h D (c :: cr) with
    | some (l, s, D1) => some (.k f l, s, D1)
    | none => none
  | .o i => match h[i]? with
    | some (.row _ _ n xs) => some (.r n (unv xs), [fun (_ : Mem) => xs = (unv xs).map SV.v], D)
    | _ => none
  | .sl i off len _ => match h[i]? with
    | some (.cells xs _) => some (.r len (unv ((xs.drop off).take len)), [fun (_ : Mem) => (xs.drop off).take len = (unv ((xs.drop off).take len)).map SV.v], D)
    | _ => none
  | s => match plain s with
    | some x => some (argPl D x)
    | none => none
def rvOf (h : List HO) : List Dec → List SV → Option (List RV × List Side × List Dec)
  | D, [] => some ([], [], D)
  | D, a :: r => match argRv h D a with
    | some (x, s1, D1) => match rvOf h D1 r with
      | some (l, s, D') => some (x :: l, s1 ++ s, D')
      | none => none
    | none => none

/-- A state with what a call hands back. -/
def resSt (n : Nat) (st : St) (dst : Option Nat) : Res → Option St
  | .v r => put1 n st dst (.v r)
  | .r T sz m cs => put1 n ⟨st.tm, st.heap ++ [.row T sz m (cs.map SV.v)]⟩ dst (.o st.heap.length)
  | .rt T sz m cs rest => put1 n ⟨st.tm, st.heap ++ [.row T sz m (cs.map SV.v)]⟩ dst (.tup (.o st.heap.length :: rest.map SV.v))
/-- The hint at a call: another form of what it answers. -/
def resHint (r : Res) : List Dec → Res × List Side × List Dec
  | .ld s :: D' => match r with
    | .v x => match plain s with
      | some y => (.v y, [fun (_ : Mem) => x = y], D')
      | none => (r, [], .ld s :: D')
    | _ => (r, [], .ld s :: D')
  | D => (r, [], D)

inductive Tree where
  | nil
  | br (D1 : List Dec) (a : Tree) (D2 : List Dec) (b : Tree)
def Tree.d1 : Tree → List Dec
  | .nil => []
  | .br D _ _ _ => D
def Tree.t1 : Tree → Tree
  | .nil => .nil
  | .br _ a _ _ => a
def Tree.d2 : Tree → List Dec
  | .nil => []
  | .br _ _ D _ => D
def Tree.t2 : Tree → Tree
  | .nil => .nil
  | .br _ _ _ b => b

structure Leaf2 where
  as : List Prop
  sd : List Side
  k : List It
  st : St

def findU : List (List Nat × Nat) → List Nat → Option Nat
  | [], _ => none
  | (p, m) :: r, q => bif p.beq q then some m else findU r q

/-- A condition that is still open, if it is what holds the run up. -/
def openOp (ops : Array Oper) (st : St) (o : Oper) : Option Bool :=
  match openGuard ops st o with
  | some b => some b
  | none => match o.op with
    | .next it true => match evO st.tm it with
      | some (.p i 0) => match st.heap[i]? with
        | some (.obj (.stringIter s pos)) => some (decide (pos < s.size))
        | _ => none
      | _ => none
    | _ => none
def openBool (B : Code) (k : List It) (st : St) : Option Bool :=
  match k with
  | .at p :: _ => match sub B p with
    | .cond c _ _ => match evO st.tm c with
      | some (.v (.bool b)) => some b
      | _ => none
    | _ => none
  | .ops p i :: _ => match sub B p with
    | .region _ ops _ => match ops[i]? with
      | some o => openOp ops st o
      | none => none
    | _ => none
  | .one p _ _ i :: _ => match sub B p with
    | .region _ ops _ => match ops[i]? with
      | some o => openOp ops st o
      | none => none
    | _ => none
  | .any p _ l :: _ => match sub B p with
    | .region _ ops _ => openReady ops st (Region.ready .any ops l)
    | _ => none
  | _ => none

def both : Option (List Leaf2) → Option (List Leaf2) → Option (List Leaf2)
  | some a, some b => some (a ++ b)
  | _, _ => none

def xstep (P : Program) (B : Code) (n : Nat) (C : Con P) (U : List (List Nat × Nat)) (rec : List Dec → Tree → List It → St → List Side → List Prop → Option (List Leaf2))
    (D : List Dec) (T : Tree) (k : List It) (st : St) (sd : List Side) (as : List Prop) : Option (List Leaf2) :=
  match k with
  | .at p :: k' =>
    match sub B p with
    | .loop _ => match findU U p with
      | some m => rec D T (.rnd (0 :: p) m :: k') st sd as
      | none => some [⟨as, sd, k, st⟩]
    | _ => match D, openBool B k st with
      | [], some b => both (rec (.t :: T.d1) T.t1 k st sd (as ++ [b = true])) (rec (.f :: T.d2) T.t2 k st sd (as ++ [b = false]))
      | _, _ => some [⟨as, sd, k, st⟩]
  | .rnd q (m + 1) :: k' => match findU U q.tail with
    | some _ => rec D T (.at q :: .rnd q m :: k') st sd as
    | none => some [⟨as, sd, k, st⟩]
  | it :: k' =>
    match D, openBool B k st with
    | [], some b => both (rec (.t :: T.d1) T.t1 k st sd (as ++ [b = true])) (rec (.f :: T.d2) T.t2 k st sd (as ++ [b = false]))
    | _, _ => match xcallAt P B it st [] with
      | some (f, args, st1, sd1, dst, it') => match rvOf st1.heap D args with
        | some (rvs, sd2, D2) => match C.con f rvs with
          | some (r, p) => match resSt n st1 dst (resHint r D2).1 with
            | some st2 => rec (resHint r D2).2.2 T (it' :: k') st2 (sd ++ sd1 ++ sd2 ++ [fun (_ : Mem) => p] ++ (resHint r D2).2.1) as
            | none => some [⟨as, sd, k, st⟩]
          | none => some [⟨as, sd, k, st⟩]
        | none => some [⟨as, sd, k, st⟩]
      | none => some [⟨as, sd, k, st⟩]
  | [] => some [⟨as, sd, k, st⟩]

def collect (g : Leaf → Option (List Leaf2)) : List Leaf → Option (List Leaf2)
  | [] => some []
  | l :: r => both (g l) (collect g r)

def xgo (P : Program) (X : Ext P) (B : Code) (n : Nat) (C : Con P) (U : List (List Nat × Nat)) : Nat → List Dec → Tree → List It → St → List Side → List Prop → Option (List Leaf2)
  | 0, _, _, k, st, sd, as => some [⟨as, sd, k, st⟩]
  | f + 1, D, T, k, st, sd, as =>
    match xrun P X B n 3000 D k st [] with
    | none => none
    | some L => collect (fun l => xstep P B n C U (xgo P X B n C U f) l.D T l.k l.st (sd ++ l.sd) as) L

theorem both_some {a b : Option (List Leaf2)} {L : List Leaf2} (h : both a b = some L) : ∃ x y, a = some x ∧ b = some y ∧ L = x ++ y := by
  unfold both at h
  split at h
  · rename_i x y
    simp only [Option.some.injEq] at h
    exact ⟨x, y, rfl, rfl, h.symm⟩
  · cases h
theorem collect_mem {g : Leaf → Option (List Leaf2)} : ∀ (l : List Leaf) {L : List Leaf2}, collect g l = some L → ∀ x ∈ l, ∃ A, g x = some A ∧ ∀ y ∈ A, y ∈ L
  | [], _, _, x, hx => by cases hx
  | z :: r, L, h, x, hx => by
    obtain ⟨a, b, ha, hb, rfl⟩ := both_some h
    rcases List.mem_cons.1 hx with rfl | hx
    · exact ⟨a, ha, fun y hy => List.mem_append_left _ hy⟩
    · obtain ⟨A, q1, q2⟩ := collect_mem r hb x hx
      exact ⟨A, q1, fun y hy => List.mem_append_right _ (q2 y hy)⟩

section
variable {P : Program} {X : Ext P} {B : Code} {n : Nat} {F : Mem → Prop} {w0 : World} {fin : Exit → Act → World → Prop} {C : Con P} {U : List (List Nat × Nat)}

/-- What the leaves are to pay, each under what it supposes. -/
def Paid2 (P : Program) (B : Code) (n : Nat) (F : Mem → Prop) (w0 : World) (fin : Exit → Act → World → Prop) (L : List Leaf2) : Prop :=
  ∀ l ∈ L, (∀ a ∈ l.as, a) → hold F l.sd ∧ Ok P B n F w0 fin l.k l.st
theorem Paid2.single {as : List Prop} {sd : List Side} {k : List It} {st : St} (h : Paid2 P B n F w0 fin [⟨as, sd, k, st⟩]) (ha : ∀ a ∈ as, a) : hold F sd ∧ Ok P B n F w0 fin k st :=
  h _ List.mem_cons_self ha
theorem Paid2.sub {L L' : List Leaf2} (h : Paid2 P B n F w0 fin L) (hs : ∀ x ∈ L', x ∈ L) : Paid2 P B n F w0 fin L' := fun l hl => h l (hs l hl)

variable (hm : P.follows .mixedOrders = true) (hF : Mono F) (hfin : ∀ c (a : Act) (d : Option Tmp) (v : Value) (w : World), fin (.panic c) (a.put d v) w → fin (.panic c) a w)
include hm hF hfin

omit hm hF hfin in
theorem branch_sound {D1 D2 : List Dec} {T1 T2 : Tree} {k : List It} {st : St} {sd : List Side} {as : List Prop} {b : Bool} {L : List Leaf2} {rec : List Dec → Tree → List It → St → List Side → List Prop → Option (List Leaf2)}
    (hr : ∀ D T k st sd as L, rec D T k st sd as = some L → Paid2 P B n F w0 fin L → (∀ a ∈ as, a) → hold F sd ∧ Ok P B n F w0 fin k st)
    (h : both (rec D1 T1 k st sd (as ++ [b = true])) (rec D2 T2 k st sd (as ++ [b = false])) = some L) (hp : Paid2 P B n F w0 fin L) (ha : ∀ a ∈ as, a) :
    hold F sd ∧ Ok P B n F w0 fin k st := by
  obtain ⟨x, y, h1, h2, rfl⟩ := both_some h
  cases b with
  | true =>
    refine hr _ _ _ _ _ _ _ h1 (hp.sub fun z hz => List.mem_append_left _ hz) fun a haa => ?_
    rcases List.mem_append.1 haa with haa | haa
    · exact ha a haa
    · rw [List.mem_singleton] at haa; subst haa; rfl
  | false =>
    refine hr _ _ _ _ _ _ _ h2 (hp.sub fun z hz => List.mem_append_right _ hz) fun a haa => ?_
    rcases List.mem_append.1 haa with haa | haa
    · exact ha a haa
    · rw [List.mem_singleton] at haa; subst haa; rfl

omit hm hfin hF in
theorem ownPtr_sound {h : List HO} {e : Env} {w : World} (S : SatH F w0 h e w) {i off : Nat} {D D' : List Dec} {vs : List Value} {d : Option AD} {s : List Side} (hr : ownPtr h D i off = some (vs, d, s, D')) (hs : ∀ y ∈ s, y (mem w e h)) :
    ptrAt (wmem w) (den e (.p i off)) vs d := by
  unfold ownPtr at hr
  split at hr
  · rename_i xs T hi
    have q := S.sat i _ hi
    simp only [HO.sat] at q
    have key : xs.drop off = (unv (xs.drop off)).map SV.v → MCells (wmem w) (some ⟨e.blk i, off, none⟩) (unv (xs.drop off)) := by
      intro hxs
      have hden : denL e (xs.drop off) = unv (xs.drop off) := by
        conv => lhs; rw [hxs, denL_mapv]
      rw [denL_drop] at hden
      refine ⟨_, rfl, fun j v hj => ?_⟩
      rw [← hden, List.getElem?_drop] at hj
      have hadd : (⟨e.blk i, off, none⟩ : Addr).add j = ⟨e.blk i, off + j, none⟩ := Addr.add_lit _ _ _
      rw [hadd]
      unfold Mem.cell? wmem
      simp only [q]
      simpa using hj
    split at hr
    · simp only [Option.some.injEq, Prod.mk.injEq] at hr
      obtain ⟨rfl, rfl, rfl, rfl⟩ := hr
      refine ⟨_, rfl, key (hs _ List.mem_cons_self), fun x hx => ?_⟩
      cases hx
      exact (hs _ (List.mem_cons_of_mem _ List.mem_cons_self)).mono (mem_le_wmem w e h)
    · simp only [Option.some.injEq, Prod.mk.injEq] at hr
      obtain ⟨rfl, rfl, rfl, rfl⟩ := hr
      exact ⟨_, rfl, key (hs _ List.mem_cons_self), fun x hx => by cases hx⟩
  · cases hr
omit hm hfin hF in
theorem capRv_sound {h : List HO} {e : Env} {w : World} (S : SatH F w0 h e w) {a : SV} {D D' : List Dec} {x : Cp} {s : List Side} (hr : capRv h D a = some (x, s, D')) (hs : ∀ y ∈ s, y (mem w e h)) :
    capAt (wmem w) (den e a) x := by
  have key2 : ∀ b : SV, (match plain b with
    | some x => some (Cp.v x, ([] : List Side), D)
    | none => none) = some (x, s, D') → capAt (wmem w) (den e b) x := by
    intro b hh
    cases hp : plain b with
    | none => rw [hp] at hh; cases hh
    | some y =>
      rw [hp] at hh
      simp only [Option.some.injEq, Prod.mk.injEq] at hh
      obtain ⟨rfl, rfl, rfl⟩ := hh
      exact plain_sound e b hp
  cases a with
  | p i off =>
    simp only [capRv] at hr
    split at hr
    · rename_i h1
      simp only [Option.some.injEq, Prod.mk.injEq] at hr
      obtain ⟨rfl, rfl, rfl⟩ := hr
      exact ownPtr_sound S h1 hs
    · cases hr
  | _ => exact key2 _ hr
omit hm hfin hF in
theorem capsRv_sound {h : List HO} {e : Env} {w : World} (S : SatH F w0 h e w) : ∀ (args : List SV) (D : List Dec) {l : List Cp} {s : List Side} {D' : List Dec}, capsRv h D args = some (l, s, D') → (∀ x ∈ s, x (mem w e h)) →
    capsAt (wmem w) l (denL e args)
  | [], D, l, s, D', hr, _ => by
    simp only [capsRv, Option.some.injEq, Prod.mk.injEq] at hr
    obtain ⟨rfl, rfl, rfl⟩ := hr
    trivial
  | a :: r, D, l, s, D', hr, hs => by
    simp only [capsRv] at hr
    split at hr
    · rename_i x s1 D1 h1
      split at hr
      · rename_i l2 s2 D2 h2
        simp only [Option.some.injEq, Prod.mk.injEq] at hr
        obtain ⟨rfl, rfl, rfl⟩ := hr
        exact ⟨capRv_sound S h1 fun y hy => hs y (List.mem_append_left _ hy), capsRv_sound S r D1 h2 fun y hy => hs y (List.mem_append_right _ hy)⟩
      · cases hr
    · cases hr
omit hm hfin hF in
theorem argRv_sound {h : List HO} {e : Env} {w : World} (S : SatH F w0 h e w) {a : SV} {D D' : List Dec} {x : RV} {s : List Side} (hr : argRv h D a = some (x, s, D')) (hs : ∀ y ∈ s, y (mem w e h)) :
    RVs (wmem w) [x] [den e a] := by
  have key : ∀ (y : Value), plain a = some y → argPl D y = (x, s, D') → RVs (wmem w) [x] [den e a] := by
    intro y hy hh
    unfold argPl at hh
    split at hh
    · rename_i cs D1
      split at hh
      · rename_i oa n cap
        simp only [Prod.mk.injEq] at hh
        obtain ⟨rfl, rfl, rfl⟩ := hh
        refine ⟨⟨oa, cap, plain_sound e a hy, ?_⟩, trivial⟩
        rcases hs _ List.mem_cons_self with hq | ⟨ad, q1, q2⟩
        · exact .inl hq
        · exact .inr ⟨ad, q1, fun j v hv => cell_of_mem (mem_le_wmem w e h) (q2 j v hv)⟩
      · rename_i oa
        have e1 := plain_sound e a hy
        split at hh
        · rename_i d D2
          simp only [Prod.mk.injEq] at hh
          obtain ⟨rfl, rfl, rfl⟩ := hh
          obtain ⟨q1, q2⟩ := hs _ List.mem_cons_self
          exact ⟨⟨_, e1, q1.mono (mem_le_wmem w e h), fun x hx => by cases hx; exact q2.mono (mem_le_wmem w e h)⟩, trivial⟩
        · simp only [Prod.mk.injEq] at hh
          obtain ⟨rfl, rfl, rfl⟩ := hh
          exact ⟨⟨_, e1, (hs _ List.mem_cons_self).mono (mem_le_wmem w e h), fun x hx => by cases hx⟩, trivial⟩
      · rename_i f oa
        have e1 := plain_sound e a hy
        split at hh
        · rename_i d D2
          simp only [Prod.mk.injEq] at hh
          obtain ⟨rfl, rfl, rfl⟩ := hh
          obtain ⟨q1, q2⟩ := hs _ List.mem_cons_self
          exact ⟨⟨[.pointer oa], e1, ⟨_, rfl, q1.mono (mem_le_wmem w e h), fun x hx => by cases hx; exact q2.mono (mem_le_wmem w e h)⟩, trivial⟩, trivial⟩
        · simp only [Prod.mk.injEq] at hh
          obtain ⟨rfl, rfl, rfl⟩ := hh
          exact ⟨⟨[.pointer oa], e1, ⟨_, rfl, (hs _ List.mem_cons_self).mono (mem_le_wmem w e h), fun x hx => by cases hx⟩, trivial⟩, trivial⟩
      · simp only [Prod.mk.injEq] at hh
        obtain ⟨rfl, rfl, rfl⟩ := hh
        exact ⟨plain_sound e a hy, trivial⟩
    · rename_i d D1
      simp only [Prod.mk.injEq] at hh
      obtain ⟨rfl, rfl, rfl⟩ := hh
      exact ⟨⟨plain_sound e a hy, (hs _ List.mem_cons_self).mono (mem_le_wmem w e h)⟩, trivial⟩
    · simp only [Prod.mk.injEq] at hh
      obtain ⟨rfl, rfl, rfl⟩ := hh
      exact ⟨plain_sound e a hy, trivial⟩
  have key2 : (match plain a with
    | some x => some (argPl D x)
    | none => none) = some (x, s, D') → RVs (wmem w) [x] [den e a] := by
    intro hh
    cases hp : plain a with
    | none => rw [hp] at hh; cases hh
    | some y =>
      rw [hp] at hh
      simp only [Option.some.injEq] at hh
      exact key y hp hh
  cases a with
  | p i off =>
    simp only [argRv] at hr
    split at hr
    · rename_i h1
      simp only [Option.some.injEq, Prod.mk.injEq] at hr
      obtain ⟨rfl, rfl, rfl⟩ := hr
      exact ⟨ownPtr_sound S h1 hs, trivial⟩
    · cases hr
  | fn f first cap =>
    cases f with
    | func f =>
      cases first with
      | nil =>
        cases cap with
        | nil => exact key2 hr
        | cons c cr =>
          simp only [argRv] at hr
          split at hr
          · rename_i h1
            simp only [Option.some.injEq, Prod.mk.injEq] at hr
            obtain ⟨rfl, rfl, rfl⟩ := hr
            exact ⟨⟨_, rfl, capsRv_sound S _ _ h1 hs⟩, trivial⟩
          · cases hr
      | cons y yr => exact key2 hr
    | _ => exact key2 hr
  | o i =>
    simp only [argRv] at hr
    cases hi : h[i]? with
    | none => rw [hi] at hr; cases hr
    | some ho =>
      rw [hi] at hr
      cases ho with
      | row T sz n xs =>
          simp only [Option.some.injEq, Prod.mk.injEq] at hr
          obtain ⟨rfl, rfl, rfl⟩ := hr
          have hxs : xs = (unv xs).map SV.v := hs _ List.mem_cons_self
          refine ⟨?_, trivial⟩
          obtain ⟨⟨q1, q2⟩, _⟩ := S.sat i _ hi
          rw [hxs, denL_mapv] at q1 q2
          rcases q2 with ⟨q2, q3⟩ | ⟨g, cap, cur, hv, _, hg, _, _, _, ht⟩
          · subst q3
            refine ⟨none, 0, q2, .inl ?_⟩
            rw [Nat.zero_mul] at q1
            exact List.eq_nil_of_length_eq_zero q1
          · refine ⟨_, cap, hv, .inr ⟨_, rfl, fun j v hj => ?_⟩⟩
            rw [← ht, List.getElem?_take] at hj
            split at hj
            · have hadd : (⟨g, 0, none⟩ : Addr).add j = ⟨g, 0 + j, none⟩ := Addr.add_lit g 0 j
              rw [hadd, Nat.zero_add]
              unfold Mem.cell? wmem
              simp only [hg]
              simpa using hj
            · cases hj
      | _ => cases hr
  | sl i off len cap =>
    simp only [argRv] at hr
    cases hi : h[i]? with
    | none => rw [hi] at hr; cases hr
    | some ho =>
      rw [hi] at hr
      cases ho with
      | cells xs T =>
          simp only [Option.some.injEq, Prod.mk.injEq] at hr
          obtain ⟨rfl, rfl, rfl⟩ := hr
          have hxs : (xs.drop off).take len = (unv ((xs.drop off).take len)).map SV.v := hs _ List.mem_cons_self
          have q := S.sat i _ hi
          simp only [HO.sat] at q
          have hden : denL e ((xs.drop off).take len) = unv ((xs.drop off).take len) := by
            conv => lhs; rw [hxs, denL_mapv]
          rw [denL_take, denL_drop] at hden
          refine ⟨⟨some ⟨e.blk i, off, none⟩, cap, rfl, .inr ⟨_, rfl, fun j v hj => ?_⟩⟩, trivial⟩
          rw [← hden, List.getElem?_take] at hj
          split at hj
          · rw [List.getElem?_drop] at hj
            have hadd : (⟨e.blk i, off, none⟩ : Addr).add j = ⟨e.blk i, off + j, none⟩ := Addr.add_lit _ _ _
            rw [hadd]
            unfold Mem.cell? wmem
            simp only [q]
            simpa using hj
          · cases hj
      | _ => cases hr
  | _ => exact key2 hr
omit hm hfin hF in
theorem rvOf_sound {h : List HO} {e : Env} {w : World} (S : SatH F w0 h e w) : ∀ (args : List SV) (D : List Dec) {l : List RV} {s : List Side} {D' : List Dec}, rvOf h D args = some (l, s, D') → (∀ x ∈ s, x (mem w e h)) →
    RVs (wmem w) l (denL e args)
  | [], D, l, s, D', hr, _ => by
    simp only [rvOf, Option.some.injEq, Prod.mk.injEq] at hr
    obtain ⟨rfl, rfl, rfl⟩ := hr
    trivial
  | a :: r, D, l, s, D', hr, hs => by
    simp only [rvOf] at hr
    split at hr
    · rename_i x s1 D1 h1
      split at hr
      · rename_i l2 s2 D2 h2
        simp only [Option.some.injEq, Prod.mk.injEq] at hr
        obtain ⟨rfl, rfl, rfl⟩ := hr
        have q1 := argRv_sound S h1 fun y hy => hs y (List.mem_append_left _ hy)
        have q2 := rvOf_sound S r D1 h2 fun y hy => hs y (List.mem_append_right _ hy)
        cases x with
        | v x => exact ⟨q1.1, q2⟩
        | r n cs => exact ⟨q1.1, q2⟩
        | c x d => exact ⟨q1.1, q2⟩
        | b cs d => exact ⟨q1.1, q2⟩
        | k f caps => exact ⟨q1.1, q2⟩
      · cases hr
    · cases hr

omit hm hfin in
theorem res_sound {it it' : It} {k : List It} {st st1 st2 : St} {D : List Dec} {f : FuncId} {args : List SV} {sd : List Side} {dst : Option Nat} (hx : xcallAt P B it st D = some (f, args, st1, sd, dst, it')) (hsd : hold F sd)
    (r : Res) (hst : resSt n st1 dst r = some st2) (hc : ∀ e w, SatH F w0 st1.heap e w → Calls P f (denL e args).toArray w (fun E w' => ∃ v, E = .returned v ∧ r.ok w w' v ∧ Below w.heap.size w w'))
    (h : Ok P B n F w0 fin (it' :: k) st2) : Ok P B n F w0 fin (it :: k) st := by
  cases r with
  | v r =>
    refine Ok.callP hF hx hsd (.v r) r rfl hst (fun e w S => (hc e w S).mono fun E w' hE => ?_) h
    obtain ⟨v, rfl, hv, hb⟩ := hE
    have hv : v = r := hv
    subst hv
    exact ⟨rfl, hb⟩
  | r T sz m cs =>
    refine Ok.callR (α := Unit) hF (fun _ => True) T sz (fun _ => m) (fun _ => cs) (st2 := fun _ => st2) hx hsd (fun _ => .o st1.heap.length) (fun _ => Nat.lt_succ_self _) (fun _ => hst) (fun e w S => (hc e w S).mono fun E w' hE => ?_) (fun _ _ => h)
    obtain ⟨v, rfl, hr, hb⟩ := hE
    exact ⟨(), v, trivial, by simp [den, Env.setR], hb, hr.1, hr.2⟩
  | rt T sz m cs rest =>
    refine Ok.callR (α := Unit) hF (fun _ => True) T sz (fun _ => m) (fun _ => cs) (st2 := fun _ => st2) hx hsd (fun _ => .tup (.o st1.heap.length :: rest.map SV.v)) (fun _ => ⟨Nat.lt_succ_self _, wsL_mapv _ _⟩) (fun _ => hst) (fun e w S => (hc e w S).mono fun E w' hE => ?_) (fun _ _ => h)
    obtain ⟨v, rfl, ⟨u, rfl, hr⟩, hb⟩ := hE
    exact ⟨(), u, trivial, by simp [den, denL, Env.setR, denL_mapv], hb, hr.1, hr.2⟩

omit hm hfin in
theorem call_sound {it : It} {k : List It} {D D' : List Dec} {T : Tree} {st : St} {sd : List Side} {as : List Prop} {L : List Leaf2} {rec : List Dec → Tree → List It → St → List Side → List Prop → Option (List Leaf2)}
    (hr : ∀ D T k st sd as L, rec D T k st sd as = some L → Paid2 P B n F w0 fin L → (∀ a ∈ as, a) → hold F sd ∧ Ok P B n F w0 fin k st)
    (h : (match xcallAt P B it st D' with
      | some (f, args, st1, sd1, dst, it') => match rvOf st1.heap D args with
        | some (rvs, sd2, D2) => match C.con f rvs with
          | some (r, p) => match resSt n st1 dst (resHint r D2).1 with
            | some st2 => rec (resHint r D2).2.2 T (it' :: k) st2 (sd ++ sd1 ++ sd2 ++ [fun (_ : Mem) => p] ++ (resHint r D2).2.1) as
            | none => some [⟨as, sd, it :: k, st⟩]
          | none => some [⟨as, sd, it :: k, st⟩]
        | none => some [⟨as, sd, it :: k, st⟩]
      | none => some [⟨as, sd, it :: k, st⟩]) = some L) (hp : Paid2 P B n F w0 fin L) (ha : ∀ a ∈ as, a) :
    hold F sd ∧ Ok P B n F w0 fin (it :: k) st := by
  split at h
  · rename_i f args st1 sd1 dst it' hx
    split at h
    · rename_i rvs sd2 D2 hvs
      split at h
      · rename_i r p hc
        split at h
        · rename_i st2 hput
          obtain ⟨q1, q2⟩ := hr _ _ _ _ _ _ _ h hp ha
          have m1 : ∀ s ∈ sd, s ∈ sd ++ sd1 ++ sd2 ++ [fun (_ : Mem) => p] ++ (resHint r D2).2.1 := fun s hs => by simp [hs]
          have m2 : ∀ s ∈ sd1, s ∈ sd ++ sd1 ++ sd2 ++ [fun (_ : Mem) => p] ++ (resHint r D2).2.1 := fun s hs => by simp [hs]
          have m3 : ∀ s ∈ sd2, s ∈ sd ++ sd1 ++ sd2 ++ [fun (_ : Mem) => p] ++ (resHint r D2).2.1 := fun s hs => by simp [hs]
          have m4 : (fun (_ : Mem) => p) ∈ sd ++ sd1 ++ sd2 ++ [fun (_ : Mem) => p] ++ (resHint r D2).2.1 := by simp
          have m5 : ∀ s ∈ (resHint r D2).2.1, s ∈ sd ++ sd1 ++ sd2 ++ [fun (_ : Mem) => p] ++ (resHint r D2).2.1 := fun s hs => by simp [hs]
          refine ⟨fun s hs => q1 s (m1 s hs), ?_⟩
          refine res_sound hF hx (fun s hs => q1 s (m2 s hs)) (resHint r D2).1 hput (fun e w S => ?_) q2
          have hw := C.ok f rvs r p _ w hc (q1 _ m4 _ S.fact) (rvOf_sound S args D hvs fun x hx => q1 x (m3 x hx) _ S.fact)
          refine hw.mono fun E w' hE => ?_
          obtain ⟨v, hE1, hE2, hE3⟩ := hE
          refine ⟨v, hE1, ?_, hE3⟩
          have m6 := fun x hx => q1 x (m5 x hx) _ S.fact
          revert m6
          unfold resHint
          split
          · rename_i s D'
            split
            · rename_i x
              split
              · rename_i y hy
                intro m6
                have := m6 _ List.mem_cons_self
                subst this
                exact hE2
              · intro _; exact hE2
            · intro _; exact hE2
          · intro _; exact hE2
        · simp only [Option.some.injEq] at h; subst h; exact hp.single ha
      · simp only [Option.some.injEq] at h; subst h; exact hp.single ha
    · simp only [Option.some.injEq] at h; subst h; exact hp.single ha
  · simp only [Option.some.injEq] at h; subst h; exact hp.single ha

theorem xgo_sound : ∀ (fuel : Nat) (D : List Dec) (T : Tree) (k : List It) (st : St) (sd : List Side) (as : List Prop) (L : List Leaf2), xgo P X B n C U fuel D T k st sd as = some L →
    Paid2 P B n F w0 fin L → (∀ a ∈ as, a) → hold F sd ∧ Ok P B n F w0 fin k st
  | 0, D, T, k, st, sd, as, L, h, hp, ha => by
    simp only [xgo, Option.some.injEq] at h
    subst h
    exact hp.single ha
  | fuel + 1, D, T, k, st, sd, as, L, h, hp, ha => by
    have ih := fun D T k st sd as L h hp ha => xgo_sound fuel D T k st sd as L h hp ha
    simp only [xgo] at h
    split at h
    · cases h
    · rename_i L0 h0
      have key : ∀ l ∈ L0, hold F (sd ++ l.sd) ∧ Ok P B n F w0 fin l.k l.st := by
        intro l hl
        obtain ⟨A, g1, g2⟩ := collect_mem _ h l hl
        have hpA := hp.sub g2
        revert g1
        obtain ⟨lsd, lk, lst, lD⟩ := l
        simp only
        intro g1
        unfold xstep at g1
        split at g1
        · rename_i p k'
          split at g1
          · rename_i c hs
            split at g1
            · rename_i m hm'
              obtain ⟨r1, r2⟩ := ih _ _ _ _ _ _ _ g1 hpA ha
              exact ⟨r1, Ok.loop m (by rw [hs]) r2⟩
            · simp only [Option.some.injEq] at g1; subst g1; exact hpA.single ha
          · split at g1
            · exact branch_sound ih g1 hpA ha
            · simp only [Option.some.injEq] at g1; subst g1; exact hpA.single ha
        · split at g1
          · obtain ⟨r1, r2⟩ := ih _ _ _ _ _ _ _ g1 hpA ha
            exact ⟨r1, Ok.rnd r2⟩
          · simp only [Option.some.injEq] at g1; subst g1; exact hpA.single ha
        · split at g1
          · exact branch_sound ih g1 hpA ha
          · exact call_sound hF ih g1 hpA ha
        · simp only [Option.some.injEq] at g1; subst g1; exact hpA.single ha
      have hh := (xrun_has 3000 D k st [] h0).1
      obtain ⟨l0, hl0⟩ := hh
      refine ⟨fun s hs => (key l0 hl0).1 s (List.mem_append_left _ hs), ?_⟩
      exact xrun_sound hm hF hfin 3000 D k st [] h0 fun l hl => ⟨fun s hs => (key l hl).1 s (List.mem_append_right _ hs), (key l hl).2⟩
end

/-- What is known of all memory from the beginning on. -/
def F0 (w0 : World) : Mem → Prop := fun M => (wmem w0).le M
theorem F0.mono (w0 : World) : Mono (F0 w0) := fun _ _ h k => k.trans h
theorem below_of {w0 w : World} {h : List HO} {e : Env} {G : Mem → Prop} (hG : ∀ M, G M → (wmem w0).le M) (S : SatH G w0 h e w) : Below w0.heap.size w0 w := by
  have hf := hG _ S.fact
  have key : ∀ b o, w0.heap[b]? = some o → w.heap[b]? = some o := fun b o hb => mem_le_wmem w e h b o (hf b o hb)
  refine ⟨S.os, S.tape, S.output, ?_, fun b hb => ?_⟩
  · by_cases h0 : w0.heap.size = 0
    · omega
    · have hlt : w0.heap.size - 1 < w0.heap.size := by omega
      have := key (w0.heap.size - 1) _ (Array.getElem?_eq_getElem hlt)
      have := (Array.getElem?_eq_some_iff.1 this).1
      omega
  · rw [Array.getElem?_eq_getElem hb]
    exact key b _ (Array.getElem?_eq_getElem hb)
theorem finB {P : Program} {fn : Func} {R : Ending → World → Prop} : ∀ c (a : Act) (d : Option Tmp) (v : Value) (w : World), bodyPost P fn R (.panic c) (a.put d v) w → bodyPost P fn R (.panic c) a w := by
  intro c a d v w h
  cases d <;> exact h
end Go.Sx
