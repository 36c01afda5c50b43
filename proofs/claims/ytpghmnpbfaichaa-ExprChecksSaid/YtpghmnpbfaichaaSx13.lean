/- The run through a function's body, cut at loops and calls, and that it is so. -/
import Derived.Test.YtpghmnpbfaichaaSx12
import Derived.LoopN
namespace Go.Sx
open Go.RowKit

def child (i : Nat) : Code → Code
  | .seq a b => match i with | 0 => a | _ => b
  | .cond _ a b => match i with | 0 => a | _ => b
  | .block _ b => b
  | .loop b => b
  | .scope b => b
  | c => c
/-- The part of a body at a path (the last step first). -/
def sub (B : Code) : List Nat → Code
  | [] => B
  | i :: p => child i (sub B p)

inductive It where
  | at (p : List Nat)
  | blk (id : Nat)
  | rnd (p : List Nat) (m : Nat)
  | ret
  | ops (p : List Nat) (i : Nat)
  | any (p : List Nat) (fuel : Nat) (listed : Array Bool)
  | one (p : List Nat) (fuel : Nat) (listed : Array Bool) (i : Nat)

def post (P : Program) (B : Code) (fin : Exit → Act → World → Prop) : List It → Exit → Act → World → Prop
  | [], e, a, w => fin e a w
  | .at p :: k, .normal, a, w => (sub B p).wp P (post P B fin k) a w
  | .ops p i :: k, .normal, a, w => match sub B p with
    | .region _ ops _ => wpList P ops (post P B fin k) (ops.toList.drop i) a w
    | _ => False
  | .any p f l :: k, .normal, a, w => match sub B p with
    | .region _ ops _ => wpAnyG P ops (post P B fin k) f l a w
    | _ => False
  | .one p f l i :: k, .normal, a, w => match sub B p with
    | .region _ ops _ => wpOp P ops (post P B fin k) i (fun a' w' => (ndOf ops i = true → Grow w w') ∧ wpAnyG P ops (post P B fin k) f (l.setIfInBounds i true) a' w') a w
    | _ => False
  | .ret :: k, .normal, a, w => post P B fin k .ret a w
  | .rnd p m :: k, .normal, a, w => Code.rounds P (sub B p) (post P B fin k) m a w
  | .blk _ :: k, .normal, a, w => post P B fin k .normal a w
  | .blk id :: k, .exit id', a, w => if id' = id then post P B fin k .normal a w else post P B fin k (.exit id') a w
  | _ :: k, e, a, w => post P B fin k e a w

structure St where
  tm : List (Nat × SV)
  heap : List HO

structure Leaf where
  sd : List Side
  k : List It
  st : St
  D : List Dec

def exitK (id : Nat) : List It → Option (List It)
  | [] => none
  | .blk id' :: k => bif Nat.beq id id' then some k else exitK id k
  | _ :: k => exitK id k

/-- Is a guarded operation wanted? (its guard's slot, marked if it has been decided) -/
def xguard (ops : Array Oper) (st : St) (D : List Dec) (o : Oper) : Option (Bool × St × List Side × List Dec) :=
  match o.guard with
  | none => some (true, st, [], D)
  | some (j, want) => match (ops[j]?).bind (·.dst) with
    | none => none
    | some t => match lk st.tm t with
      | some (.bl b) => some (b == want, st, [], D)
      | some (.v (.bool b)) => match D with
        | .t :: D' => some (want, ⟨(t, .bl true) :: del st.tm t, st.heap⟩, [fun (_ : Mem) => b = true], D')
        | .f :: D' => some (!want, ⟨(t, .bl false) :: del st.tm t, st.heap⟩, [fun (_ : Mem) => b = false], D')
        | _ => none
      | some (.v (.tuple _)) => some (false, st, [], D)
      | _ => none

def put1 (n : Nat) (st : St) (d : Option Nat) (s : SV) : Option St :=
  match d with
  | none => some st
  | some d => bif Nat.blt d n then some ⟨(d, s) :: del st.tm d, st.heap⟩ else none

/-- One operation: it is carried out, or not wanted; none: a call, or what the reckoner does not know. -/
def xop (P : Program) (X : Ext P) (n : Nat) (ops : Array Oper) (st : St) (D : List Dec) (o : Oper) : Option (St × List Side × List Dec) :=
  match xguard ops st D o with
  | none => none
  | some (false, st1, sd1, D1) => match put1 n st1 o.dst (.v undef) with
    | some st2 => some (st2, sd1, D1)
    | none => none
  | some (true, st1, sd1, D1) =>
    match xqa P X st1.tm st1.heap D1 o with
    | some (s, sd2, D2) => match put1 n st1 o.dst s with
      | some st2 => some (st2, sd1 ++ sd2, D2)
      | none => none
    | none => match xl P st1.tm st1.heap D1 o with
      | some (some s, h, sd2, D2) => match put1 n ⟨st1.tm, h⟩ o.dst s with
        | some st2 => some (st2, sd1 ++ sd2, D2)
        | none => none
      | some (none, h, sd2, D2) => match put1 n ⟨st1.tm, h⟩ o.dst (.v undef) with
        | some st2 => some (st2, sd1 ++ sd2, D2)
        | none => none
      | none => none

/-- The first operation that may come up and writes nothing (or is not wanted), carried out. -/
def xtake (P : Program) (X : Ext P) (n : Nat) (ops : Array Oper) (listed : Array Bool) (st : St) (D : List Dec) : List Nat → Option (Nat × St × List Side × List Dec)
  | [] => none
  | i :: r =>
    match ops[i]? with
    | none => xtake P X n ops listed st D r
    | some o => match xguard ops st D o with
      | none => xtake P X n ops listed st D r
      | some (false, st1, sd1, D1) => match put1 n st1 o.dst (.v undef) with
        | some st2 => bif early ops o && Region.free .any ops listed i then some (i, st2, sd1, D1) else xtake P X n ops listed st D r
        | none => none
      | some (true, st1, sd1, D1) => match xqa P X st1.tm st1.heap D1 o with
        | some (s, sd2, D2) => match put1 n st1 o.dst s with
          | some st2 => bif early ops o && Region.free .any ops listed i then some (i, st2, sd1 ++ sd2, D2) else xtake P X n ops listed st D r
          | none => none
        | none => xtake P X n ops listed st D r

/-- The open condition that guards an operation. -/
def openGuard (ops : Array Oper) (st : St) (o : Oper) : Option Bool :=
  match o.guard with
  | some (j, _) => match (ops[j]?).bind (·.dst) with
    | some t => match lk st.tm t with
      | some (.v (.bool b)) => some b
      | _ => none
    | none => none
  | none => none
/-- The first open condition of those operations that may come up. -/
def openReady (ops : Array Oper) (st : St) : List Nat → Option Bool
  | [] => none
  | i :: r => match ops[i]? with
    | some o => match openGuard ops st o with
      | some b => some b
      | none => openReady ops st r
    | none => openReady ops st r
def waits (ops : Array Oper) (st : St) (D : List Dec) (l : List Nat) : Bool :=
  match D with
  | [] => (openReady ops st l).isSome
  | _ => false

def branch (g : Nat → Option (List Leaf)) : List Nat → Option (List Leaf)
  | [] => some []
  | i :: r => match g i, branch g r with
    | some a, some b => some (a ++ b)
    | _, _ => none

def xrun (P : Program) (X : Ext P) (B : Code) (n : Nat) : Nat → List Dec → List It → St → List Side → Option (List Leaf)
  | 0, D, k, st, sd => some [⟨sd, k, st, D⟩]
  | fuel + 1, D, k, st, sd =>
    match k with
    | [] => some [⟨sd, k, st, D⟩]
    | .rnd p m :: k' => some [⟨sd, .rnd p m :: k', st, D⟩]
    | .ret :: k' => some [⟨sd, .ret :: k', st, D⟩]
    | .one p f l i :: k' => some [⟨sd, .one p f l i :: k', st, D⟩]
    | .blk _ :: k' => xrun P X B n fuel D k' st sd
    | .at p :: k' => match sub B p with
      | .skip => xrun P X B n fuel D k' st sd
      | .label _ => xrun P X B n fuel D k' st sd
      | .seq _ _ => xrun P X B n fuel D (.at (0 :: p) :: .at (1 :: p) :: k') st sd
      | .block id _ => xrun P X B n fuel D (.at (0 :: p) :: .blk id :: k') st sd
      | .cond c _ _ => match evO st.tm c with
        | some (.bl true) => xrun P X B n fuel D (.at (0 :: p) :: k') st sd
        | some (.bl false) => xrun P X B n fuel D (.at (1 :: p) :: k') st sd
        | some (.v (.bool b)) => match D with
          | .t :: D' => xrun P X B n fuel D' (.at (0 :: p) :: k') st (sd ++ [fun (_ : Mem) => b = true])
          | .f :: D' => xrun P X B n fuel D' (.at (1 :: p) :: k') st (sd ++ [fun (_ : Mem) => b = false])
          | _ => some [⟨sd, .at p :: k', st, D⟩]
        | _ => none
      | .exit id => match exitK id k' with
        | some k2 => xrun P X B n fuel D k2 st sd
        | none => none
      | .ret => some [⟨sd, .ret :: k', st, D⟩]
      | .region _ ops dr => xrun P X B n fuel D ((bif dr then .any p ops.size (Array.replicate ops.size false) else .ops p 0) :: k') st sd
      | _ => some [⟨sd, .at p :: k', st, D⟩]
    | .ops p i :: k' => match sub B p with
      | .region _ ops _ => match ops[i]? with
        | none => xrun P X B n fuel D k' st sd
        | some o => match xop P X n ops st D o with
          | some (st2, sd2, D2) => xrun P X B n fuel D2 (.ops p (i + 1) :: k') st2 (sd ++ sd2)
          | none => some [⟨sd, .ops p i :: k', st, D⟩]
      | _ => none
    | .any p f l :: k' => match sub B p with
      | .region _ ops _ => match Region.ready .any ops l with
        | [] => xrun P X B n fuel D k' st sd
        | r :: rs => match f with
          | 0 => none
          | f + 1 => bif Region.noSelect ops then
            match xtake P X n ops l st D (r :: rs) with
            | some (i, st2, sd2, D2) => xrun P X B n fuel D2 (.any p f (l.setIfInBounds i true) :: k') st2 (sd ++ sd2)
            | none => bif waits ops st D (r :: rs) then some [⟨sd, .any p (f + 1) l :: k', st, D⟩] else branch (fun i => match ops[i]? with
              | none => none
              | some o => match xop P X n ops st D o with
                | some (st2, sd2, D2) => bif keepOp o || !ndOf ops i then xrun P X B n fuel D2 (.any p f (l.setIfInBounds i true) :: k') st2 (sd ++ sd2) else none
                | none => some [⟨sd, .one p f l i :: k', st, D⟩]) (r :: rs)
            else none
      | _ => none
end Go.Sx
