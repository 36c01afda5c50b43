/- Numbers that the kernel does not look into; the data that arguments stand for. -/
import Derived.Below
import Derived.OrdersHeld
import Derived.Tactics
namespace Go.Pl
/-- A number that the kernel does not look into. -/
noncomputable def hide (a : Nat) : Nat := Classical.choose (⟨a, rfl⟩ : ∃ x : Nat, x = a)
theorem hide_eq (a : Nat) : hide a = a := Classical.choose_spec (⟨a, rfl⟩ : ∃ x : Nat, x = a)
noncomputable def limb (n i : Nat) : Nat := hide (n / 18446744073709551616 ^ i % 18446744073709551616)
/-- A node: its operation, its two numbers, its element. -/
structure Nd where
  op : Int
  a : Int
  b : Int
  v : Nat
/-- A circuit. -/
structure CD where
  f : Int
  a : Int
  i : Int
  nodes : List Nd
  gates : List Int
  lks : List (List Int × List Int)
  eqs : List (Int × Int)
/-- What an argument stands for. -/
inductive AD where
  | circ (c : CD)
  | chk (c : CD) (deg : List Int)
def intsC (l : List Int) : List Value := l.map fun z => .int .i64 z
noncomputable def ndC (x : Nd) : List Value := [.int .i64 x.op, .int .i64 x.a, .int .i64 x.b, .int .u64 (limb x.v 0 : Nat), .int .u64 (limb x.v 1 : Nat), .int .u64 (limb x.v 2 : Nat), .int .u64 (limb x.v 3 : Nat)]
noncomputable def nodesC (l : List Nd) : List Value := l.flatMap ndC
def eqsC (l : List (Int × Int)) : List Value := l.flatMap fun x => [.int .i64 x.1, .int .i64 x.2]
end Go.Pl
