/- The reckoner of the operations that write nothing. -/
import Derived.Test.YtpghmnpbfaichaaSx4
import Derived.Stop.Asserts
namespace Go.Sx
open Go.RowKit

def putL (cells : List SV) (off : Nat) (cs : List SV) : List SV := cells.take off ++ cs ++ cells.drop (off + cs.length)
theorem putL_length {cells : List SV} {off : Nat} {cs : List SV} (h : off + cs.length ≤ cells.length) : (putL cells off cs).length = cells.length := by
  simp [putL]; omega
theorem wsL_append {n : Nat} {a b : List SV} : wsL n (a ++ b) ↔ wsL n a ∧ wsL n b := by
  simp only [wsL_iff, List.mem_append]
  exact ⟨fun h => ⟨fun x hx => h x (.inl hx), fun x hx => h x (.inr hx)⟩, fun h x hx => hx.elim (h.1 x) (h.2 x)⟩
theorem wsL_take {n k : Nat} {a : List SV} (h : wsL n a) : wsL n (a.take k) := (wsL_iff _ _).2 fun x hx => (wsL_iff _ _).1 h x (List.mem_of_mem_take hx)
theorem wsL_drop {n k : Nat} {a : List SV} (h : wsL n a) : wsL n (a.drop k) := (wsL_iff _ _).2 fun x hx => (wsL_iff _ _).1 h x (List.mem_of_mem_drop hx)
theorem wsL_putL {n : Nat} {cells : List SV} {off : Nat} {cs : List SV} (h : wsL n cells) (k : wsL n cs) : wsL n (putL cells off cs) :=
  wsL_append.2 ⟨wsL_append.2 ⟨wsL_take h, k⟩, wsL_drop h⟩
theorem denL_append (e : Env) (a b : List SV) : denL e (a ++ b) = denL e a ++ denL e b := by simp [denL_map]
theorem denL_take (e : Env) (a : List SV) (k : Nat) : denL e (a.take k) = (denL e a).take k := by simp [denL_map, List.map_take]
theorem denL_drop (e : Env) (a : List SV) (k : Nat) : denL e (a.drop k) = (denL e a).drop k := by simp [denL_map, List.map_drop]
theorem denL_putL (e : Env) (cells : List SV) (off : Nat) (cs : List SV) : denL e (putL cells off cs) = (denL e cells).take off ++ denL e cs ++ (denL e cells).drop (off + (denL e cs).length) := by
  simp [putL, denL_append, denL_take, denL_drop, denL_length]

theorem foldl_set (off : Nat) : ∀ (cs : List Value) (k : Nat) (cells : List Value), off + k + cs.length ≤ cells.length →
    (cs.zipIdx k).foldl (fun (acc : Array Value) (x : Value × Nat) => acc.setIfInBounds (off + x.2) x.1) cells.toArray = (cells.take (off + k) ++ cs ++ cells.drop (off + k + cs.length)).toArray
  | [], k, cells, _ => by simp
  | c :: cs, k, cells, h => by
    simp only [List.zipIdx_cons, List.foldl_cons, List.length_cons] at h ⊢
    have : cells.toArray.setIfInBounds (off + k) c = (cells.set (off + k) c).toArray := by simp
    rw [this, foldl_set off cs (k + 1) (cells.set (off + k) c) (by simp; omega)]
    congr 1
    have hlt : off + k < cells.length := by omega
    have e1 : (cells.set (off + k) c).take (off + (k + 1)) = cells.take (off + k) ++ [c] := by
      rw [show off + (k + 1) = (off + k) + 1 from by omega, List.take_succ_eq_append_getElem (by simpa using hlt)]
      simp [List.take_set_of_le]
    have e2 : (cells.set (off + k) c).drop (off + (k + 1) + cs.length) = cells.drop (off + k + (cs.length + 1)) := by
      rw [List.drop_set_of_lt (by omega)]
      congr 1
      omega
    rw [e1, e2]
    simp

theorem mapIdx_zip (l : List Value) : List.mapIdx (fun i a => (a, i)) l = l.zipIdx := by
  rw [List.mapIdx_eq_zipIdx_map]
  simp

def fillS (h : List HO) (place : Nat → Option (Nat × Nat)) (cells : List SV) : List (Nat × SV) → Option (List SV)
  | [] => some cells
  | (i, s) :: r =>
    match place i, cellsOfSV h s with
    | some (off, size), some cs => bif Nat.beq cs.length size && Nat.ble (off + cs.length) cells.length then fillS h place (putL cells off cs) r else none
    | _, _ => none

theorem fillS_sound {F : Mem → Prop} {h : List HO} {e : Env} {w : World} (S : SatQ F h e w) (hl : Nat) (place : Nat → Option (Nat × Nat)) :
    ∀ (parts : List (Nat × SV)) (cells : List SV) {r : List SV}, fillS h place cells parts = some r → wsL hl cells → (∀ x ∈ parts, ws hl x.2) →
      Instr.fill place (denL e cells).toArray (parts.map fun x => (x.1, den e x.2)) = some (denL e r).toArray ∧ wsL hl r
  | [], cells, r, hr, hc, _ => by
    simp only [fillS, Option.some.injEq] at hr
    subst hr
    exact ⟨rfl, hc⟩
  | (i, s) :: rest, cells, r, hr, hc, hp => by
    simp only [fillS] at hr
    split at hr
    · rename_i off size cs hpl hcs
      cases hb : Nat.beq cs.length size && Nat.ble (off + cs.length) cells.length with
      | false => rw [hb] at hr; cases hr
      | true =>
        rw [hb] at hr
        simp only [cond_true] at hr
        rw [Bool.and_eq_true] at hb
        have h1 : cs.length = size := Nat.eq_of_beq_eq_true hb.1
        have h2 : off + cs.length ≤ cells.length := Nat.le_of_ble_eq_true hb.2
        obtain ⟨c1, c2⟩ := cellsOfSV_sound S hcs
        have hws := c2 hl (hp (i, s) List.mem_cons_self)
        obtain ⟨q1, q2⟩ := fillS_sound S hl place rest (putL cells off cs) hr (wsL_putL hc hws) (fun x hx => hp x (List.mem_cons_of_mem _ hx))
        refine ⟨?_, q2⟩
        simp only [List.map_cons, Instr.fill, hpl, c1, List.size_toArray, denL_length, h1, ne_eq, not_true_eq_false, decide_false, Bool.false_or, gt_iff_lt, decide_eq_true_eq]
        rw [if_neg (by omega)]
        rw [← q1]
        congr 1
        have := foldl_set off (denL e cs) 0 (denL e cells) (by simp [denL_length]; omega)
        simp only [Nat.add_zero] at this
        rw [denL_putL, ← this]
        simp [Array.zipIdx]
        rw [mapIdx_zip]
    · cases hr

def evParts (tm : List (Nat × SV)) : List (Nat × Operand) → Option (List (Nat × SV))
  | [] => some []
  | (i, x) :: r => match evO tm x, evParts tm r with
    | some s, some l => some ((i, s) :: l)
    | _, _ => none
theorem evParts_sound {n hl : Nat} {tm : List (Nat × SV)} {e : Env} {a : Act} (T : TSat n hl tm e a) : ∀ (l : List (Nat × Operand)) {r : List (Nat × SV)}, evParts tm l = some r →
    (l.map fun x => (x.1, a.eval x.2)) = (r.map fun x => (x.1, den e x.2)) ∧ ∀ x ∈ r, ws hl x.2
  | [], r, h => by simp only [evParts, Option.some.injEq] at h; subst h; exact ⟨rfl, fun x hx => by cases hx⟩
  | (i, x) :: rest, r, h => by
    simp only [evParts] at h
    split at h
    · rename_i s l h1 h2
      simp only [Option.some.injEq] at h
      subst h
      obtain ⟨q1, q2⟩ := evParts_sound T rest h2
      obtain ⟨p1, p2⟩ := evO_sound T h1
      refine ⟨by simp [q1, p1], fun y hy => ?_⟩
      rcases List.mem_cons.1 hy with rfl | hy
      · exact p2
      · exact q2 y hy
    · cases h
def evList (tm : List (Nat × SV)) : List Operand → Option (List SV)
  | [] => some []
  | x :: r => match evO tm x, evList tm r with
    | some s, some l => some (s :: l)
    | _, _ => none
theorem evList_sound {n hl : Nat} {tm : List (Nat × SV)} {e : Env} {a : Act} (T : TSat n hl tm e a) : ∀ (l : List Operand) {r : List SV}, evList tm l = some r →
    l.map a.eval = denL e r ∧ wsL hl r
  | [], r, h => by simp only [evList, Option.some.injEq] at h; subst h; exact ⟨rfl, trivial⟩
  | x :: rest, r, h => by
    simp only [evList] at h
    split at h
    · rename_i s l h1 h2
      simp only [Option.some.injEq] at h
      subst h
      obtain ⟨q1, q2⟩ := evList_sound T rest h2
      obtain ⟨p1, p2⟩ := evO_sound T h1
      exact ⟨by simp [q1, p1, denL], p2, q2⟩
    · cases h

def sbyte (s : ByteArray) (i : Nat) : Int := (((s.data.toList[i]?).getD 0).toNat : Int)

def one (x : Option SV) (D : List Dec) : QR := match x with | some s => some (s, [], D) | none => none

def xpick (tm : List (Nat × SV)) (D : List Dec) (c x y : Operand) : QR :=
  match evO tm c with
  | some (.bl true) => one (evO tm x) D
  | some (.bl false) => one (evO tm y) D
  | some (.v (.bool z)) => match D with
    | .t :: D' => match evO tm x with | some s => some (s, [fun _ => z = true], D') | none => none
    | .f :: D' => match evO tm y with | some s => some (s, [fun _ => z = false], D') | none => none
    | _ => none
  | _ => none

def xload (P : Program) (tm : List (Nat × SV)) (h : List HO) (D : List Dec) (t : TypeId) (x : Operand) : QR :=
  match evO tm x with
  | some (.p i off) => match h[i]? with
    | some (.cells cs _) => ownLoad P t i cs off D
    | _ => none
  | some (.q i off) => match h[i]? with
    | some (.row _ _ _ xs) => match ownLoad P t i xs off D with
      | some (s, sd, D') => some (s, (fun _ => 0 < xs.length) :: sd, D')
      | none => none
    | _ => none
  | some (.v (.pointer oa)) => extLoad P t oa D
  | _ => none

def xnil (P : Program) (tm : List (Nat × SV)) (D : List Dec) (o : Oper) (x : Operand) : QR :=
  match evO tm x with
  | some (.p i off) => some (.p i off, [], D)
  | some (.fn (.func f) a c) => some (.fn (.func f) a c, [], D)
  | some (.ifc t y) => some (.ifc t y, [], D)
  | some (.v (.pointer oa)) => some (.v (.pointer oa), [fun _ => oa.isSome = true], D)
  | _ => xgen P tm D o

def xfieldAddr (P : Program) (tm : List (Nat × SV)) (h : List HO) (D : List Dec) (S0 : TypeId) (x : Operand) (f : Nat) : QR :=
  match P.underlying S0 with
  | some (.struct fs) => match fs[f]? with
    | some fd => match tsize P fd.type, evO tm x with
      | some (_ + 1), some s => match ptrAdd h fd.offset s with
        | some (s', sd) => some (s', sd, D)
        | none => none
      | _, _ => none
    | none => none
  | _ => none

def xindexAddr (P : Program) (tm : List (Nat × SV)) (h : List HO) (D : List Dec) (T : TypeId) (x ix : Operand) : QR :=
  match evInt tm ix with
  | none => none
  | some (_, i) =>
    match P.underlying T with
    | some (.array len el) => match tsize P el, evO tm x with
      | some sz, some s => match ptrAdd h (i.toNat * sz) s with
        | some (s', sd) => some (s', (fun _ => 0 ≤ i ∧ i < (len : Int)) :: sd, D)
        | none => none
      | _, _ => none
    | some (.slice el) => match tsize P el, evO tm x with
      | some sz, some (.o j) => match h[j]? with
        | some (.row _ _ nn _) => some (.q j (i.toNat * sz), [fun _ => 0 ≤ i ∧ i < (nn : Int)], D)
        | _ => none
      | some sz, some (.sl j off len _) => some (.p j (off + i.toNat * sz), [fun _ => 0 ≤ i ∧ i < (len : Int)], D)
      | some sz, some (.v (.slice oa len _)) => some (.v (.pointer (oa.map fun ad => ad.add (i.toNat * sz))), [fun _ => 0 ≤ i ∧ i < (len : Int), fun _ => oa.isSome = true], D)
      | _, _ => none
    | _ => none

def xpart (P : Program) (t : TypeId) (cs : List SV) (off : Nat) : Option SV :=
  match aggB P t, tsize P t with
  | some true, some n => bif Nat.beq ((cs.drop off).take n).length n then some (.agg ((cs.drop off).take n)) else none
  | some false, _ => cs[off]?
  | _, _ => none

def xindex (P : Program) (tm : List (Nat × SV)) (D : List Dec) (o : Oper) (T : TypeId) (x ix : Operand) : QR :=
  match evInt tm ix with
  | none => none
  | some (_, i) =>
    match P.underlying T, evO tm x with
    | some (.array len el), some s => match tsize P el, s with
      | some sz, .agg cs => match xpart P el cs (i.toNat * sz) with
        | some r => some (r, [fun _ => 0 ≤ i ∧ i < (len : Int)], D)
        | none => none
      | _, _ => xgen P tm D o
    | some .string, some (.v (.string s)) => some (.v (.int .u8 (sbyte s i.toNat)), [fun _ => 0 ≤ i ∧ i < (s.size : Int)], D)
    | _, _ => none

def xfield (P : Program) (tm : List (Nat × SV)) (D : List Dec) (o : Oper) (T : TypeId) (x : Operand) (f : Nat) : QR :=
  match P.underlying T, evO tm x with
  | some (.struct fs), some (.agg cs) => match fs[f]? with
    | some fd => one (xpart P fd.type cs fd.offset) D
    | none => none
  | _, _ => xgen P tm D o

def xextract (P : Program) (tm : List (Nat × SV)) (D : List Dec) (o : Oper) (x : Operand) (ix : Nat) : QR :=
  match evO tm x with
  | some (.tup cs) => one cs[ix]? D
  | _ => xgen P tm D o

def xiface (P : Program) (tm : List (Nat × SV)) (D : List Dec) (T : TypeId) (x : Operand) : QR :=
  match P.underlying T, evO tm x with
  | some (.interface _), _ => none
  | some _, some s => some (.ifc T s, [], D)
  | _, _ => none

def xbuild (P : Program) (tm : List (Nat × SV)) (h : List HO) (D : List Dec) (t : TypeId) (parts : Array (Nat × Operand)) : QR :=
  match prun P (zeroValue t), evParts tm parts.toList with
  | some z, some ps => match P.underlying t with
    | some (.struct fs) => match prun P (fs.mapM fun f => do pure (f.offset, ← sizeOf f.type)) with
      | some places => match fillS h (fun i => places[i]?) (z.cells.toList.map SV.v) ps with
        | some r => some (.agg r, [], D)
        | none => none
      | none => none
    | some (.array _ el) => match tsize P el with
      | some sz => match fillS h (fun i => some (i * sz, sz)) (z.cells.toList.map SV.v) ps with
        | some r => some (.agg r, [], D)
        | none => none
      | none => none
    | _ => none
  | _, _ => none

/-- One text behind another. -/
def catB (a b : ByteArray) : ByteArray := a ++ b
def xbin (P : Program) (X : Ext P) (tm : List (Nat × SV)) (D : List Dec) (o : Oper) (op : BinOp) (T : TypeId) (x y : Operand) : QR :=
  match evPlain tm x, evPlain tm y with
  | some (.int k m), some (.int k' m') => match op with
    | .shl => xint .shl k m m' D
    | .shr => xint .shr k m m' D
    | .quo => bif decide (k = k') then xint .quo k m m' D else none
    | .rem => bif decide (k = k') then xint .rem k m m' D else none
    | _ => xgen P tm D o
  | some (.agg A), some (.agg B) => match X.eq T with
    | some ks => match unInts ks A.toList, unInts ks B.toList with
      | some xs, some ys => match op with
        | .eql => some (.v (.bool (decide (xs = ys))), [], D)
        | .neq => some (.v (.bool (!decide (xs = ys))), [], D)
        | _ => none
      | _, _ => none
    | none => none
  | some (.string a), some (.string b) => match op with
    | .add => some (.v (.string (catB a b)), [fun _ => a.size + b.size ≤ 9223372036854775807], D)
    | _ => xgen P tm D o
  | _, _ => xgen P tm D o

def xslice (P : Program) (tm : List (Nat × SV)) (D : List Dec) (T : TypeId) (x : Operand) (lo hi mx : Option Operand) : QR :=
  match P.underlying T with
  | some (.array n el) => match tsize P el, evO tm x with
    | some sz, some (.p i off) => match xbnds tm n n lo hi mx with
      | some ((l, hh, m), sd) => some (.sl i (if m = l then off else off + l * sz) (hh - l) (m - l), sd, D)
      | none => none
    | _, _ => none
  | some .string => match evO tm x, mx with
    | some (.v (.string s)), none => match xbnds tm s.size s.size lo hi none with
      | some ((l, hh, _), sd) => some (.v (.string (s.extract l hh)), sd, D)
      | none => none
    | _, _ => none
  | some (.slice el) => match tsize P el, evO tm x with
    | some sz, some (.v (.slice oa len cap)) => match xbnds tm len cap lo hi mx with
      | some ((l, hh, m), sd) => some (.v (.slice (if m = l then oa else oa.map fun ad => ad.add (l * sz)) (hh - l) (m - l)), sd, D)
      | none => none
    | some sz, some (.sl i off len cap) => match xbnds tm len cap lo hi mx with
      | some ((l, hh, m), sd) => some (.sl i (if m = l then off else off + l * sz) (hh - l) (m - l), sd, D)
      | none => none
    | _, _ => none
  | _ => none

def xcall (P : Program) (X : Ext P) (tm : List (Nat × SV)) (h : List HO) (D : List Dec) (o : Oper) (c : Call) : QR :=
  match c.callee with
  | .builtin .len => match c.args.toList, c.argTypes.toList with
    | [x], [T] => match P.underlying T with
      | some (.slice _) => match evO tm x with
        | some (.o i) => match h[i]? with
          | some (.row _ _ nn _) => some (.v (.int .i64 nn), [], D)
          | _ => none
        | some (.sl _ _ len _) => some (.v (.int .i64 len), [], D)
        | _ => xgen P tm D o
      | _ => xgen P tm D o
    | _, _ => none
  | .value (.func f) => match evList tm c.args.toList with
    | some ss => match plainL ss with
      | some vs => match X.ext f vs with
        | some (v, p) => some (.v v, [fun _ => p], D)
        | none => none
      | none => none
    | none => none
  | .builtin _ => xgen P tm D o
  | _ => none

def xarr (P : Program) (tm : List (Nat × SV)) (h : List HO) (D : List Dec) (T : TypeId) (x : Operand) : QR :=
  match P.underlying T with
  | some (.array n _) => match evO tm x with
    | some (.sl i off len _) => some (.p i off, [fun _ => n ≤ len], D)
    | some (.v (.slice oa len _)) => some (.v (.pointer oa), [fun _ => n ≤ len], D)
    | some (.o i) => match h[i]? with
      | some (.row _ _ nn _) => some (.q i 0, [fun _ => n ≤ nn ∧ 0 < nn], D)
      | _ => none
    | _ => none
  | _ => none

/-- A type assertion to an interface, with the second answer. -/
def xassert (P : Program) (tm : List (Nat × SV)) (D : List Dec) (o : Oper) (x : Operand) (asserted : TypeId) (ok : Bool) : QR :=
  match evPlain tm x, P.underlying asserted, ok with
  | some (.iface t v), some (.interface want), true =>
    match (P.info? t).map (fun i => (lacking want i.methods).isEmpty) with
    | some true => some (.v (.tuple #[.iface t v, .bool true]), [], D)
    | some false => match (P.info? asserted).map (·.zero) with
      | some (some z) => some (.v (.tuple #[z, .bool false]), [], D)
      | _ => none
    | none => none
  | _, _, _ => xgen P tm D o

def xq (P : Program) (X : Ext P) (tm : List (Nat × SV)) (h : List HO) (D : List Dec) (o : Oper) : QR :=
  match o.op with
  | .move x => one (evO tm x) D
  | .assign x => one (evO tm x) D
  | .pick c x y => xpick tm D c x y
  | .load t x => xload P tm h D t x
  | .nilCheck x => xnil P tm D o x
  | .fieldAddr S0 x f => xfieldAddr P tm h D S0 x f
  | .indexAddr T x ix => xindexAddr P tm h D T x ix
  | .index T x ix => xindex P tm D o T x ix
  | .field T x f => xfield P tm D o T x f
  | .extract x ix => xextract P tm D o x ix
  | .makeInterface T x => xiface P tm D T x
  | .makeFunc f a c => match evList tm a.toList, evList tm c.toList with
    | some x, some y => some (.fn f x y, [], D)
    | _, _ => none
  | .build t parts => xbuild P tm h D t parts
  | .binOp op T x y _ => xbin P X tm D o op T x y
  | .slice T x lo hi mx => xslice P tm D T x lo hi mx
  | .call c => xcall P X tm h D o c
  | .unOp .. => xgen P tm D o
  | .convert .. => xgen P tm D o
  | .typeAssert x _ t ok => xassert P tm D o x t ok
  | .sliceToArrayPointer T x => xarr P tm h D T x
  | _ => none
end Go.Sx
