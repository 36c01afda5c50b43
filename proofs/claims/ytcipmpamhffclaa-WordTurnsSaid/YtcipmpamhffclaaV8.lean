/- The law of the turns, walked: it answers true. -/
import Derived.Test.YtcipmpamhffclaaV7
namespace Go.Proofs.Ytcipmpamhffclaa
open Go.Sx Go.Pl Go.RowKit
theorem run6 (a b : Nat) : (((xgo Try.prog X (bodyOf Try.f6) 112 CG [] 50 [Dec.f, Dec.ld (SV.v (Value.tuple (Array.mk [el ((a + b) % top), Value.bool (decide (top ≤ a + b))]))), Dec.ld (SV.v (Value.tuple (Array.mk [el ((a + b) % top), Value.bool (decide (top ≤ a + b))]))), Dec.ld (SV.v (Value.tuple (Array.mk [el a, Value.bool (decide (top ≤ a + b))]))), Dec.ld (SV.v (Value.tuple (Array.mk [el (a * b % top), el (a * b / top)]))), Dec.ld (SV.v (Value.tuple (Array.mk [el (a * b % top), el (a * b / top)])))] (Tree.br [Dec.t, Dec.t, Dec.t, Dec.t, Dec.t] Tree.nil [] (Tree.br [Dec.t, Dec.t, Dec.t, Dec.t] Tree.nil [] (Tree.br [Dec.t, Dec.t, Dec.t] Tree.nil [] (Tree.br [Dec.t, Dec.t] Tree.nil [] (Tree.br [Dec.t] Tree.nil [] (Tree.br [] Tree.nil [Dec.ld (SV.v (Value.tuple (Array.mk [el (0 : Nat), Value.int IntKind.i64 (↑(remE a) : Int)])))] (Tree.br [] Tree.nil [] (Tree.br [] (Tree.br [Dec.ld (SV.v (Value.bool (decide (a < b)))), Dec.ld (SV.v (Value.bool (decide (b < a))))] (Tree.br [] Tree.nil [] Tree.nil) [] Tree.nil) [Dec.f] Tree.nil)))))))) [.at []] ⟨argsTm 0 [el a, el b], []⟩ [] []).bind (ends Try.prog Try.f6.results.toList)).bind plainE) =
  some [EndP.mk [(!decide (elL ((a + b) % top) = elL ((a + b) % top))) = true] [fun _ => ([] : List RV) = [],
    fun _ => false = false,
    fun _ => el a = el (elN a) ∧ el b = el (elN b) ∧ elN a < top ∧ elN b < top,
    fun _ => Value.tuple (Array.mk [el (elN a + elN b), Value.bool (decide (top ≤ elN a + elN b))]) = Value.tuple (Array.mk [el ((a + b) % top), Value.bool (decide (top ≤ a + b))]),
    fun _ => (0 : Nat) + (4 : Nat) ≤ (4 : Nat),
    fun _ => el b = el (elN b) ∧ el a = el (elN a) ∧ elN b < top ∧ elN a < top,
    fun _ => Value.tuple (Array.mk [el (elN b + elN a), Value.bool (decide (top ≤ elN b + elN a))]) = Value.tuple (Array.mk [el ((a + b) % top), Value.bool (decide (top ≤ a + b))]),
    fun _ => (0 : Nat) + (4 : Nat) ≤ (4 : Nat),
    fun _ => el ((a + b) % top) = el (elN ((a + b) % top)) ∧ el b = el (elN b) ∧ elN ((a + b) % top) < top ∧ elN b < top,
    fun _ => Value.tuple (Array.mk [el (elN ((a + b) % top) + top - elN b), Value.bool (decide (elN ((a + b) % top) < elN b))]) = Value.tuple (Array.mk [el a, Value.bool (decide (top ≤ a + b))]),
    fun _ => (0 : Nat) + (4 : Nat) ≤ (4 : Nat),
    fun _ => el a = el (elN a) ∧ el b = el (elN b) ∧ elN a < top ∧ elN b < top,
    fun _ => Value.tuple (Array.mk [el (elN a * elN b % top), el (elN a * elN b / top)]) = Value.tuple (Array.mk [el (a * b % top), el (a * b / top)]),
    fun _ => (0 : Nat) + (4 : Nat) ≤ (4 : Nat),
    fun _ => (0 : Nat) + (4 : Nat) ≤ (4 : Nat),
    fun _ => el b = el (elN b) ∧ el a = el (elN a) ∧ elN b < top ∧ elN a < top,
    fun _ => Value.tuple (Array.mk [el (elN b * elN a % top), el (elN b * elN a / top)]) = Value.tuple (Array.mk [el (a * b % top), el (a * b / top)]),
    fun _ => (0 : Nat) + (4 : Nat) ≤ (4 : Nat),
    fun _ => (0 : Nat) + (4 : Nat) ≤ (4 : Nat),
    fun _ => (!decide (elL ((a + b) % top) = elL ((a + b) % top))) = true,
    fun _ => true = true,
    fun _ => true = true,
    fun _ => true = true,
    fun _ => true = true,
    fun _ => true = true] (Res.v (Value.bool false)),
  EndP.mk [(!decide (elL ((a + b) % top) = elL ((a + b) % top))) = false, (!decide (top ≤ a + b) == decide (top ≤ a + b)) = true] [fun _ => ([] : List RV) = [],
    fun _ => false = false,
    fun _ => el a = el (elN a) ∧ el b = el (elN b) ∧ elN a < top ∧ elN b < top,
    fun _ => Value.tuple (Array.mk [el (elN a + elN b), Value.bool (decide (top ≤ elN a + elN b))]) = Value.tuple (Array.mk [el ((a + b) % top), Value.bool (decide (top ≤ a + b))]),
    fun _ => (0 : Nat) + (4 : Nat) ≤ (4 : Nat),
    fun _ => el b = el (elN b) ∧ el a = el (elN a) ∧ elN b < top ∧ elN a < top,
    fun _ => Value.tuple (Array.mk [el (elN b + elN a), Value.bool (decide (top ≤ elN b + elN a))]) = Value.tuple (Array.mk [el ((a + b) % top), Value.bool (decide (top ≤ a + b))]),
    fun _ => (0 : Nat) + (4 : Nat) ≤ (4 : Nat),
    fun _ => el ((a + b) % top) = el (elN ((a + b) % top)) ∧ el b = el (elN b) ∧ elN ((a + b) % top) < top ∧ elN b < top,
    fun _ => Value.tuple (Array.mk [el (elN ((a + b) % top) + top - elN b), Value.bool (decide (elN ((a + b) % top) < elN b))]) = Value.tuple (Array.mk [el a, Value.bool (decide (top ≤ a + b))]),
    fun _ => (0 : Nat) + (4 : Nat) ≤ (4 : Nat),
    fun _ => el a = el (elN a) ∧ el b = el (elN b) ∧ elN a < top ∧ elN b < top,
    fun _ => Value.tuple (Array.mk [el (elN a * elN b % top), el (elN a * elN b / top)]) = Value.tuple (Array.mk [el (a * b % top), el (a * b / top)]),
    fun _ => (0 : Nat) + (4 : Nat) ≤ (4 : Nat),
    fun _ => (0 : Nat) + (4 : Nat) ≤ (4 : Nat),
    fun _ => el b = el (elN b) ∧ el a = el (elN a) ∧ elN b < top ∧ elN a < top,
    fun _ => Value.tuple (Array.mk [el (elN b * elN a % top), el (elN b * elN a / top)]) = Value.tuple (Array.mk [el (a * b % top), el (a * b / top)]),
    fun _ => (0 : Nat) + (4 : Nat) ≤ (4 : Nat),
    fun _ => (0 : Nat) + (4 : Nat) ≤ (4 : Nat),
    fun _ => (!decide (elL ((a + b) % top) = elL ((a + b) % top))) = false,
    fun _ => (!decide (top ≤ a + b) == decide (top ≤ a + b)) = true,
    fun _ => true = true,
    fun _ => true = true,
    fun _ => true = true,
    fun _ => true = true] (Res.v (Value.bool false)),
  EndP.mk [(!decide (elL ((a + b) % top) = elL ((a + b) % top))) = false, (!decide (top ≤ a + b) == decide (top ≤ a + b)) = false, (!decide (elL a = elL a)) = true] [fun _ => ([] : List RV) = [],
    fun _ => false = false,
    fun _ => el a = el (elN a) ∧ el b = el (elN b) ∧ elN a < top ∧ elN b < top,
    fun _ => Value.tuple (Array.mk [el (elN a + elN b), Value.bool (decide (top ≤ elN a + elN b))]) = Value.tuple (Array.mk [el ((a + b) % top), Value.bool (decide (top ≤ a + b))]),
    fun _ => (0 : Nat) + (4 : Nat) ≤ (4 : Nat),
    fun _ => el b = el (elN b) ∧ el a = el (elN a) ∧ elN b < top ∧ elN a < top,
    fun _ => Value.tuple (Array.mk [el (elN b + elN a), Value.bool (decide (top ≤ elN b + elN a))]) = Value.tuple (Array.mk [el ((a + b) % top), Value.bool (decide (top ≤ a + b))]),
    fun _ => (0 : Nat) + (4 : Nat) ≤ (4 : Nat),
    fun _ => el ((a + b) % top) = el (elN ((a + b) % top)) ∧ el b = el (elN b) ∧ elN ((a + b) % top) < top ∧ elN b < top,
    fun _ => Value.tuple (Array.mk [el (elN ((a + b) % top) + top - elN b), Value.bool (decide (elN ((a + b) % top) < elN b))]) = Value.tuple (Array.mk [el a, Value.bool (decide (top ≤ a + b))]),
    fun _ => (0 : Nat) + (4 : Nat) ≤ (4 : Nat),
    fun _ => el a = el (elN a) ∧ el b = el (elN b) ∧ elN a < top ∧ elN b < top,
    fun _ => Value.tuple (Array.mk [el (elN a * elN b % top), el (elN a * elN b / top)]) = Value.tuple (Array.mk [el (a * b % top), el (a * b / top)]),
    fun _ => (0 : Nat) + (4 : Nat) ≤ (4 : Nat),
    fun _ => (0 : Nat) + (4 : Nat) ≤ (4 : Nat),
    fun _ => el b = el (elN b) ∧ el a = el (elN a) ∧ elN b < top ∧ elN a < top,
    fun _ => Value.tuple (Array.mk [el (elN b * elN a % top), el (elN b * elN a / top)]) = Value.tuple (Array.mk [el (a * b % top), el (a * b / top)]),
    fun _ => (0 : Nat) + (4 : Nat) ≤ (4 : Nat),
    fun _ => (0 : Nat) + (4 : Nat) ≤ (4 : Nat),
    fun _ => (!decide (elL ((a + b) % top) = elL ((a + b) % top))) = false,
    fun _ => (!decide (top ≤ a + b) == decide (top ≤ a + b)) = false,
    fun _ => (!decide (elL a = elL a)) = true,
    fun _ => true = true,
    fun _ => true = true,
    fun _ => true = true] (Res.v (Value.bool false)),
  EndP.mk [(!decide (elL ((a + b) % top) = elL ((a + b) % top))) = false, (!decide (top ≤ a + b) == decide (top ≤ a + b)) = false, (!decide (elL a = elL a)) = false, (!decide (top ≤ a + b) == decide (top ≤ a + b)) = true] [fun _ => ([] : List RV) = [],
    fun _ => false = false,
    fun _ => el a = el (elN a) ∧ el b = el (elN b) ∧ elN a < top ∧ elN b < top,
    fun _ => Value.tuple (Array.mk [el (elN a + elN b), Value.bool (decide (top ≤ elN a + elN b))]) = Value.tuple (Array.mk [el ((a + b) % top), Value.bool (decide (top ≤ a + b))]),
    fun _ => (0 : Nat) + (4 : Nat) ≤ (4 : Nat),
    fun _ => el b = el (elN b) ∧ el a = el (elN a) ∧ elN b < top ∧ elN a < top,
    fun _ => Value.tuple (Array.mk [el (elN b + elN a), Value.bool (decide (top ≤ elN b + elN a))]) = Value.tuple (Array.mk [el ((a + b) % top), Value.bool (decide (top ≤ a + b))]),
    fun _ => (0 : Nat) + (4 : Nat) ≤ (4 : Nat),
    fun _ => el ((a + b) % top) = el (elN ((a + b) % top)) ∧ el b = el (elN b) ∧ elN ((a + b) % top) < top ∧ elN b < top,
    fun _ => Value.tuple (Array.mk [el (elN ((a + b) % top) + top - elN b), Value.bool (decide (elN ((a + b) % top) < elN b))]) = Value.tuple (Array.mk [el a, Value.bool (decide (top ≤ a + b))]),
    fun _ => (0 : Nat) + (4 : Nat) ≤ (4 : Nat),
    fun _ => el a = el (elN a) ∧ el b = el (elN b) ∧ elN a < top ∧ elN b < top,
    fun _ => Value.tuple (Array.mk [el (elN a * elN b % top), el (elN a * elN b / top)]) = Value.tuple (Array.mk [el (a * b % top), el (a * b / top)]),
    fun _ => (0 : Nat) + (4 : Nat) ≤ (4 : Nat),
    fun _ => (0 : Nat) + (4 : Nat) ≤ (4 : Nat),
    fun _ => el b = el (elN b) ∧ el a = el (elN a) ∧ elN b < top ∧ elN a < top,
    fun _ => Value.tuple (Array.mk [el (elN b * elN a % top), el (elN b * elN a / top)]) = Value.tuple (Array.mk [el (a * b % top), el (a * b / top)]),
    fun _ => (0 : Nat) + (4 : Nat) ≤ (4 : Nat),
    fun _ => (0 : Nat) + (4 : Nat) ≤ (4 : Nat),
    fun _ => (!decide (elL ((a + b) % top) = elL ((a + b) % top))) = false,
    fun _ => (!decide (top ≤ a + b) == decide (top ≤ a + b)) = false,
    fun _ => (!decide (elL a = elL a)) = false,
    fun _ => (!decide (top ≤ a + b) == decide (top ≤ a + b)) = true,
    fun _ => true = true,
    fun _ => true = true] (Res.v (Value.bool false)),
  EndP.mk [(!decide (elL ((a + b) % top) = elL ((a + b) % top))) = false, (!decide (top ≤ a + b) == decide (top ≤ a + b)) = false, (!decide (elL a = elL a)) = false, (!decide (top ≤ a + b) == decide (top ≤ a + b)) = false, (!decide (elL (a * b % top) = elL (a * b % top))) = true] [fun _ => ([] : List RV) = [],
    fun _ => false = false,
    fun _ => el a = el (elN a) ∧ el b = el (elN b) ∧ elN a < top ∧ elN b < top,
    fun _ => Value.tuple (Array.mk [el (elN a + elN b), Value.bool (decide (top ≤ elN a + elN b))]) = Value.tuple (Array.mk [el ((a + b) % top), Value.bool (decide (top ≤ a + b))]),
    fun _ => (0 : Nat) + (4 : Nat) ≤ (4 : Nat),
    fun _ => el b = el (elN b) ∧ el a = el (elN a) ∧ elN b < top ∧ elN a < top,
    fun _ => Value.tuple (Array.mk [el (elN b + elN a), Value.bool (decide (top ≤ elN b + elN a))]) = Value.tuple (Array.mk [el ((a + b) % top), Value.bool (decide (top ≤ a + b))]),
    fun _ => (0 : Nat) + (4 : Nat) ≤ (4 : Nat),
    fun _ => el ((a + b) % top) = el (elN ((a + b) % top)) ∧ el b = el (elN b) ∧ elN ((a + b) % top) < top ∧ elN b < top,
    fun _ => Value.tuple (Array.mk [el (elN ((a + b) % top) + top - elN b), Value.bool (decide (elN ((a + b) % top) < elN b))]) = Value.tuple (Array.mk [el a, Value.bool (decide (top ≤ a + b))]),
    fun _ => (0 : Nat) + (4 : Nat) ≤ (4 : Nat),
    fun _ => el a = el (elN a) ∧ el b = el (elN b) ∧ elN a < top ∧ elN b < top,
    fun _ => Value.tuple (Array.mk [el (elN a * elN b % top), el (elN a * elN b / top)]) = Value.tuple (Array.mk [el (a * b % top), el (a * b / top)]),
    fun _ => (0 : Nat) + (4 : Nat) ≤ (4 : Nat),
    fun _ => (0 : Nat) + (4 : Nat) ≤ (4 : Nat),
    fun _ => el b = el (elN b) ∧ el a = el (elN a) ∧ elN b < top ∧ elN a < top,
    fun _ => Value.tuple (Array.mk [el (elN b * elN a % top), el (elN b * elN a / top)]) = Value.tuple (Array.mk [el (a * b % top), el (a * b / top)]),
    fun _ => (0 : Nat) + (4 : Nat) ≤ (4 : Nat),
    fun _ => (0 : Nat) + (4 : Nat) ≤ (4 : Nat),
    fun _ => (!decide (elL ((a + b) % top) = elL ((a + b) % top))) = false,
    fun _ => (!decide (top ≤ a + b) == decide (top ≤ a + b)) = false,
    fun _ => (!decide (elL a = elL a)) = false,
    fun _ => (!decide (top ≤ a + b) == decide (top ≤ a + b)) = false,
    fun _ => (!decide (elL (a * b % top) = elL (a * b % top))) = true,
    fun _ => true = true] (Res.v (Value.bool false)),
  EndP.mk [(!decide (elL ((a + b) % top) = elL ((a + b) % top))) = false, (!decide (top ≤ a + b) == decide (top ≤ a + b)) = false, (!decide (elL a = elL a)) = false, (!decide (top ≤ a + b) == decide (top ≤ a + b)) = false, (!decide (elL (a * b % top) = elL (a * b % top))) = false, (!decide (elL (a * b / top) = elL (a * b / top))) = true] [fun _ => ([] : List RV) = [],
    fun _ => false = false,
    fun _ => el a = el (elN a) ∧ el b = el (elN b) ∧ elN a < top ∧ elN b < top,
    fun _ => Value.tuple (Array.mk [el (elN a + elN b), Value.bool (decide (top ≤ elN a + elN b))]) = Value.tuple (Array.mk [el ((a + b) % top), Value.bool (decide (top ≤ a + b))]),
    fun _ => (0 : Nat) + (4 : Nat) ≤ (4 : Nat),
    fun _ => el b = el (elN b) ∧ el a = el (elN a) ∧ elN b < top ∧ elN a < top,
    fun _ => Value.tuple (Array.mk [el (elN b + elN a), Value.bool (decide (top ≤ elN b + elN a))]) = Value.tuple (Array.mk [el ((a + b) % top), Value.bool (decide (top ≤ a + b))]),
    fun _ => (0 : Nat) + (4 : Nat) ≤ (4 : Nat),
    fun _ => el ((a + b) % top) = el (elN ((a + b) % top)) ∧ el b = el (elN b) ∧ elN ((a + b) % top) < top ∧ elN b < top,
    fun _ => Value.tuple (Array.mk [el (elN ((a + b) % top) + top - elN b), Value.bool (decide (elN ((a + b) % top) < elN b))]) = Value.tuple (Array.mk [el a, Value.bool (decide (top ≤ a + b))]),
    fun _ => (0 : Nat) + (4 : Nat) ≤ (4 : Nat),
    fun _ => el a = el (elN a) ∧ el b = el (elN b) ∧ elN a < top ∧ elN b < top,
    fun _ => Value.tuple (Array.mk [el (elN a * elN b % top), el (elN a * elN b / top)]) = Value.tuple (Array.mk [el (a * b % top), el (a * b / top)]),
    fun _ => (0 : Nat) + (4 : Nat) ≤ (4 : Nat),
    fun _ => (0 : Nat) + (4 : Nat) ≤ (4 : Nat),
    fun _ => el b = el (elN b) ∧ el a = el (elN a) ∧ elN b < top ∧ elN a < top,
    fun _ => Value.tuple (Array.mk [el (elN b * elN a % top), el (elN b * elN a / top)]) = Value.tuple (Array.mk [el (a * b % top), el (a * b / top)]),
    fun _ => (0 : Nat) + (4 : Nat) ≤ (4 : Nat),
    fun _ => (0 : Nat) + (4 : Nat) ≤ (4 : Nat),
    fun _ => (!decide (elL ((a + b) % top) = elL ((a + b) % top))) = false,
    fun _ => (!decide (top ≤ a + b) == decide (top ≤ a + b)) = false,
    fun _ => (!decide (elL a = elL a)) = false,
    fun _ => (!decide (top ≤ a + b) == decide (top ≤ a + b)) = false,
    fun _ => (!decide (elL (a * b % top) = elL (a * b % top))) = false,
    fun _ => (!decide (elL (a * b / top) = elL (a * b / top))) = true] (Res.v (Value.bool false)),
  EndP.mk [(!decide (elL ((a + b) % top) = elL ((a + b) % top))) = false, (!decide (top ≤ a + b) == decide (top ≤ a + b)) = false, (!decide (elL a = elL a)) = false, (!decide (top ≤ a + b) == decide (top ≤ a + b)) = false, (!decide (elL (a * b % top) = elL (a * b % top))) = false, (!decide (elL (a * b / top) = elL (a * b / top))) = false, decide (elL a = [(0 : Int), (0 : Int), (0 : Int), (0 : Int)]) = true] [fun _ => ([] : List RV) = [],
    fun _ => false = false,
    fun _ => el a = el (elN a) ∧ el b = el (elN b) ∧ elN a < top ∧ elN b < top,
    fun _ => Value.tuple (Array.mk [el (elN a + elN b), Value.bool (decide (top ≤ elN a + elN b))]) = Value.tuple (Array.mk [el ((a + b) % top), Value.bool (decide (top ≤ a + b))]),
    fun _ => (0 : Nat) + (4 : Nat) ≤ (4 : Nat),
    fun _ => el b = el (elN b) ∧ el a = el (elN a) ∧ elN b < top ∧ elN a < top,
    fun _ => Value.tuple (Array.mk [el (elN b + elN a), Value.bool (decide (top ≤ elN b + elN a))]) = Value.tuple (Array.mk [el ((a + b) % top), Value.bool (decide (top ≤ a + b))]),
    fun _ => (0 : Nat) + (4 : Nat) ≤ (4 : Nat),
    fun _ => el ((a + b) % top) = el (elN ((a + b) % top)) ∧ el b = el (elN b) ∧ elN ((a + b) % top) < top ∧ elN b < top,
    fun _ => Value.tuple (Array.mk [el (elN ((a + b) % top) + top - elN b), Value.bool (decide (elN ((a + b) % top) < elN b))]) = Value.tuple (Array.mk [el a, Value.bool (decide (top ≤ a + b))]),
    fun _ => (0 : Nat) + (4 : Nat) ≤ (4 : Nat),
    fun _ => el a = el (elN a) ∧ el b = el (elN b) ∧ elN a < top ∧ elN b < top,
    fun _ => Value.tuple (Array.mk [el (elN a * elN b % top), el (elN a * elN b / top)]) = Value.tuple (Array.mk [el (a * b % top), el (a * b / top)]),
    fun _ => (0 : Nat) + (4 : Nat) ≤ (4 : Nat),
    fun _ => (0 : Nat) + (4 : Nat) ≤ (4 : Nat),
    fun _ => el b = el (elN b) ∧ el a = el (elN a) ∧ elN b < top ∧ elN a < top,
    fun _ => Value.tuple (Array.mk [el (elN b * elN a % top), el (elN b * elN a / top)]) = Value.tuple (Array.mk [el (a * b % top), el (a * b / top)]),
    fun _ => (0 : Nat) + (4 : Nat) ≤ (4 : Nat),
    fun _ => (0 : Nat) + (4 : Nat) ≤ (4 : Nat),
    fun _ => (!decide (elL ((a + b) % top) = elL ((a + b) % top))) = false,
    fun _ => (!decide (top ≤ a + b) == decide (top ≤ a + b)) = false,
    fun _ => (!decide (elL a = elL a)) = false,
    fun _ => (!decide (top ≤ a + b) == decide (top ≤ a + b)) = false,
    fun _ => (!decide (elL (a * b % top) = elL (a * b % top))) = false,
    fun _ => (!decide (elL (a * b / top) = elL (a * b / top))) = false,
    fun _ => (4 : Nat) ≤ (4 : Nat),
    fun _ => el (a * b % top) = el (elN (a * b % top)) ∧ el (a * b / top) = el (elN (a * b / top)) ∧ el a = el (elN a) ∧ elN (a * b % top) < top ∧ elN (a * b / top) < top ∧ elN a < top,
    fun _ => remV (elN (a * b % top)) (elN (a * b / top)) (elN a) = Value.tuple (Array.mk [el (0 : Nat), Value.int IntKind.i64 (↑(remE a) : Int)]),
    fun _ => (4 : Nat) ≤ (4 : Nat),
    fun _ => decide (elL a = [(0 : Int), (0 : Int), (0 : Int), (0 : Int)]) = true] (Res.v (Value.bool ((↑(remE a) : Int) == (10 : Int)))),
  EndP.mk [(!decide (elL ((a + b) % top) = elL ((a + b) % top))) = false, (!decide (top ≤ a + b) == decide (top ≤ a + b)) = false, (!decide (elL a = elL a)) = false, (!decide (top ≤ a + b) == decide (top ≤ a + b)) = false, (!decide (elL (a * b % top) = elL (a * b % top))) = false, (!decide (elL (a * b / top) = elL (a * b / top))) = false, decide (elL a = [(0 : Int), (0 : Int), (0 : Int), (0 : Int)]) = false, ((↑(remE a) : Int) == (0 : Int)) = true, decide (elL (0 : Nat) = [(0 : Int), (0 : Int), (0 : Int), (0 : Int)]) = true, decide (b < a) = true] [fun _ => ([] : List RV) = [],
    fun _ => false = false,
    fun _ => el a = el (elN a) ∧ el b = el (elN b) ∧ elN a < top ∧ elN b < top,
    fun _ => Value.tuple (Array.mk [el (elN a + elN b), Value.bool (decide (top ≤ elN a + elN b))]) = Value.tuple (Array.mk [el ((a + b) % top), Value.bool (decide (top ≤ a + b))]),
    fun _ => (0 : Nat) + (4 : Nat) ≤ (4 : Nat),
    fun _ => el b = el (elN b) ∧ el a = el (elN a) ∧ elN b < top ∧ elN a < top,
    fun _ => Value.tuple (Array.mk [el (elN b + elN a), Value.bool (decide (top ≤ elN b + elN a))]) = Value.tuple (Array.mk [el ((a + b) % top), Value.bool (decide (top ≤ a + b))]),
    fun _ => (0 : Nat) + (4 : Nat) ≤ (4 : Nat),
    fun _ => el ((a + b) % top) = el (elN ((a + b) % top)) ∧ el b = el (elN b) ∧ elN ((a + b) % top) < top ∧ elN b < top,
    fun _ => Value.tuple (Array.mk [el (elN ((a + b) % top) + top - elN b), Value.bool (decide (elN ((a + b) % top) < elN b))]) = Value.tuple (Array.mk [el a, Value.bool (decide (top ≤ a + b))]),
    fun _ => (0 : Nat) + (4 : Nat) ≤ (4 : Nat),
    fun _ => el a = el (elN a) ∧ el b = el (elN b) ∧ elN a < top ∧ elN b < top,
    fun _ => Value.tuple (Array.mk [el (elN a * elN b % top), el (elN a * elN b / top)]) = Value.tuple (Array.mk [el (a * b % top), el (a * b / top)]),
    fun _ => (0 : Nat) + (4 : Nat) ≤ (4 : Nat),
    fun _ => (0 : Nat) + (4 : Nat) ≤ (4 : Nat),
    fun _ => el b = el (elN b) ∧ el a = el (elN a) ∧ elN b < top ∧ elN a < top,
    fun _ => Value.tuple (Array.mk [el (elN b * elN a % top), el (elN b * elN a / top)]) = Value.tuple (Array.mk [el (a * b % top), el (a * b / top)]),
    fun _ => (0 : Nat) + (4 : Nat) ≤ (4 : Nat),
    fun _ => (0 : Nat) + (4 : Nat) ≤ (4 : Nat),
    fun _ => (!decide (elL ((a + b) % top) = elL ((a + b) % top))) = false,
    fun _ => (!decide (top ≤ a + b) == decide (top ≤ a + b)) = false,
    fun _ => (!decide (elL a = elL a)) = false,
    fun _ => (!decide (top ≤ a + b) == decide (top ≤ a + b)) = false,
    fun _ => (!decide (elL (a * b % top) = elL (a * b % top))) = false,
    fun _ => (!decide (elL (a * b / top) = elL (a * b / top))) = false,
    fun _ => (4 : Nat) ≤ (4 : Nat),
    fun _ => el (a * b % top) = el (elN (a * b % top)) ∧ el (a * b / top) = el (elN (a * b / top)) ∧ el a = el (elN a) ∧ elN (a * b % top) < top ∧ elN (a * b / top) < top ∧ elN a < top,
    fun _ => remV (elN (a * b % top)) (elN (a * b / top)) (elN a) = Value.tuple (Array.mk [el (0 : Nat), Value.int IntKind.i64 (↑(remE a) : Int)]),
    fun _ => (4 : Nat) ≤ (4 : Nat),
    fun _ => decide (elL a = [(0 : Int), (0 : Int), (0 : Int), (0 : Int)]) = false,
    fun _ => ((↑(remE a) : Int) == (0 : Int)) = true,
    fun _ => decide (elL (0 : Nat) = [(0 : Int), (0 : Int), (0 : Int), (0 : Int)]) = true,
    fun _ => el a = el (elN a) ∧ el b = el (elN b) ∧ elN a < top ∧ elN b < top,
    fun _ => Value.bool (decide (elN a < elN b)) = Value.bool (decide (a < b)),
    fun _ => el b = el (elN b) ∧ el a = el (elN a) ∧ elN b < top ∧ elN a < top,
    fun _ => Value.bool (decide (elN b < elN a)) = Value.bool (decide (b < a)),
    fun _ => decide (b < a) = true] (Res.v (Value.bool !decide (a < b) == true)),
  EndP.mk [(!decide (elL ((a + b) % top) = elL ((a + b) % top))) = false, (!decide (top ≤ a + b) == decide (top ≤ a + b)) = false, (!decide (elL a = elL a)) = false, (!decide (top ≤ a + b) == decide (top ≤ a + b)) = false, (!decide (elL (a * b % top) = elL (a * b % top))) = false, (!decide (elL (a * b / top) = elL (a * b / top))) = false, decide (elL a = [(0 : Int), (0 : Int), (0 : Int), (0 : Int)]) = false, ((↑(remE a) : Int) == (0 : Int)) = true, decide (elL (0 : Nat) = [(0 : Int), (0 : Int), (0 : Int), (0 : Int)]) = true, decide (b < a) = false] [fun _ => ([] : List RV) = [],
    fun _ => false = false,
    fun _ => el a = el (elN a) ∧ el b = el (elN b) ∧ elN a < top ∧ elN b < top,
    fun _ => Value.tuple (Array.mk [el (elN a + elN b), Value.bool (decide (top ≤ elN a + elN b))]) = Value.tuple (Array.mk [el ((a + b) % top), Value.bool (decide (top ≤ a + b))]),
    fun _ => (0 : Nat) + (4 : Nat) ≤ (4 : Nat),
    fun _ => el b = el (elN b) ∧ el a = el (elN a) ∧ elN b < top ∧ elN a < top,
    fun _ => Value.tuple (Array.mk [el (elN b + elN a), Value.bool (decide (top ≤ elN b + elN a))]) = Value.tuple (Array.mk [el ((a + b) % top), Value.bool (decide (top ≤ a + b))]),
    fun _ => (0 : Nat) + (4 : Nat) ≤ (4 : Nat),
    fun _ => el ((a + b) % top) = el (elN ((a + b) % top)) ∧ el b = el (elN b) ∧ elN ((a + b) % top) < top ∧ elN b < top,
    fun _ => Value.tuple (Array.mk [el (elN ((a + b) % top) + top - elN b), Value.bool (decide (elN ((a + b) % top) < elN b))]) = Value.tuple (Array.mk [el a, Value.bool (decide (top ≤ a + b))]),
    fun _ => (0 : Nat) + (4 : Nat) ≤ (4 : Nat),
    fun _ => el a = el (elN a) ∧ el b = el (elN b) ∧ elN a < top ∧ elN b < top,
    fun _ => Value.tuple (Array.mk [el (elN a * elN b % top), el (elN a * elN b / top)]) = Value.tuple (Array.mk [el (a * b % top), el (a * b / top)]),
    fun _ => (0 : Nat) + (4 : Nat) ≤ (4 : Nat),
    fun _ => (0 : Nat) + (4 : Nat) ≤ (4 : Nat),
    fun _ => el b = el (elN b) ∧ el a = el (elN a) ∧ elN b < top ∧ elN a < top,
    fun _ => Value.tuple (Array.mk [el (elN b * elN a % top), el (elN b * elN a / top)]) = Value.tuple (Array.mk [el (a * b % top), el (a * b / top)]),
    fun _ => (0 : Nat) + (4 : Nat) ≤ (4 : Nat),
    fun _ => (0 : Nat) + (4 : Nat) ≤ (4 : Nat),
    fun _ => (!decide (elL ((a + b) % top) = elL ((a + b) % top))) = false,
    fun _ => (!decide (top ≤ a + b) == decide (top ≤ a + b)) = false,
    fun _ => (!decide (elL a = elL a)) = false,
    fun _ => (!decide (top ≤ a + b) == decide (top ≤ a + b)) = false,
    fun _ => (!decide (elL (a * b % top) = elL (a * b % top))) = false,
    fun _ => (!decide (elL (a * b / top) = elL (a * b / top))) = false,
    fun _ => (4 : Nat) ≤ (4 : Nat),
    fun _ => el (a * b % top) = el (elN (a * b % top)) ∧ el (a * b / top) = el (elN (a * b / top)) ∧ el a = el (elN a) ∧ elN (a * b % top) < top ∧ elN (a * b / top) < top ∧ elN a < top,
    fun _ => remV (elN (a * b % top)) (elN (a * b / top)) (elN a) = Value.tuple (Array.mk [el (0 : Nat), Value.int IntKind.i64 (↑(remE a) : Int)]),
    fun _ => (4 : Nat) ≤ (4 : Nat),
    fun _ => decide (elL a = [(0 : Int), (0 : Int), (0 : Int), (0 : Int)]) = false,
    fun _ => ((↑(remE a) : Int) == (0 : Int)) = true,
    fun _ => decide (elL (0 : Nat) = [(0 : Int), (0 : Int), (0 : Int), (0 : Int)]) = true,
    fun _ => el a = el (elN a) ∧ el b = el (elN b) ∧ elN a < top ∧ elN b < top,
    fun _ => Value.bool (decide (elN a < elN b)) = Value.bool (decide (a < b)),
    fun _ => el b = el (elN b) ∧ el a = el (elN a) ∧ elN b < top ∧ elN a < top,
    fun _ => Value.bool (decide (elN b < elN a)) = Value.bool (decide (b < a)),
    fun _ => decide (b < a) = false] (Res.v (Value.bool !decide (a < b) == decide (elL a = elL b))),
  EndP.mk [(!decide (elL ((a + b) % top) = elL ((a + b) % top))) = false, (!decide (top ≤ a + b) == decide (top ≤ a + b)) = false, (!decide (elL a = elL a)) = false, (!decide (top ≤ a + b) == decide (top ≤ a + b)) = false, (!decide (elL (a * b % top) = elL (a * b % top))) = false, (!decide (elL (a * b / top) = elL (a * b / top))) = false, decide (elL a = [(0 : Int), (0 : Int), (0 : Int), (0 : Int)]) = false, ((↑(remE a) : Int) == (0 : Int)) = true, decide (elL (0 : Nat) = [(0 : Int), (0 : Int), (0 : Int), (0 : Int)]) = false] [fun _ => ([] : List RV) = [],
    fun _ => false = false,
    fun _ => el a = el (elN a) ∧ el b = el (elN b) ∧ elN a < top ∧ elN b < top,
    fun _ => Value.tuple (Array.mk [el (elN a + elN b), Value.bool (decide (top ≤ elN a + elN b))]) = Value.tuple (Array.mk [el ((a + b) % top), Value.bool (decide (top ≤ a + b))]),
    fun _ => (0 : Nat) + (4 : Nat) ≤ (4 : Nat),
    fun _ => el b = el (elN b) ∧ el a = el (elN a) ∧ elN b < top ∧ elN a < top,
    fun _ => Value.tuple (Array.mk [el (elN b + elN a), Value.bool (decide (top ≤ elN b + elN a))]) = Value.tuple (Array.mk [el ((a + b) % top), Value.bool (decide (top ≤ a + b))]),
    fun _ => (0 : Nat) + (4 : Nat) ≤ (4 : Nat),
    fun _ => el ((a + b) % top) = el (elN ((a + b) % top)) ∧ el b = el (elN b) ∧ elN ((a + b) % top) < top ∧ elN b < top,
    fun _ => Value.tuple (Array.mk [el (elN ((a + b) % top) + top - elN b), Value.bool (decide (elN ((a + b) % top) < elN b))]) = Value.tuple (Array.mk [el a, Value.bool (decide (top ≤ a + b))]),
    fun _ => (0 : Nat) + (4 : Nat) ≤ (4 : Nat),
    fun _ => el a = el (elN a) ∧ el b = el (elN b) ∧ elN a < top ∧ elN b < top,
    fun _ => Value.tuple (Array.mk [el (elN a * elN b % top), el (elN a * elN b / top)]) = Value.tuple (Array.mk [el (a * b % top), el (a * b / top)]),
    fun _ => (0 : Nat) + (4 : Nat) ≤ (4 : Nat),
    fun _ => (0 : Nat) + (4 : Nat) ≤ (4 : Nat),
    fun _ => el b = el (elN b) ∧ el a = el (elN a) ∧ elN b < top ∧ elN a < top,
    fun _ => Value.tuple (Array.mk [el (elN b * elN a % top), el (elN b * elN a / top)]) = Value.tuple (Array.mk [el (a * b % top), el (a * b / top)]),
    fun _ => (0 : Nat) + (4 : Nat) ≤ (4 : Nat),
    fun _ => (0 : Nat) + (4 : Nat) ≤ (4 : Nat),
    fun _ => (!decide (elL ((a + b) % top) = elL ((a + b) % top))) = false,
    fun _ => (!decide (top ≤ a + b) == decide (top ≤ a + b)) = false,
    fun _ => (!decide (elL a = elL a)) = false,
    fun _ => (!decide (top ≤ a + b) == decide (top ≤ a + b)) = false,
    fun _ => (!decide (elL (a * b % top) = elL (a * b % top))) = false,
    fun _ => (!decide (elL (a * b / top) = elL (a * b / top))) = false,
    fun _ => (4 : Nat) ≤ (4 : Nat),
    fun _ => el (a * b % top) = el (elN (a * b % top)) ∧ el (a * b / top) = el (elN (a * b / top)) ∧ el a = el (elN a) ∧ elN (a * b % top) < top ∧ elN (a * b / top) < top ∧ elN a < top,
    fun _ => remV (elN (a * b % top)) (elN (a * b / top)) (elN a) = Value.tuple (Array.mk [el (0 : Nat), Value.int IntKind.i64 (↑(remE a) : Int)]),
    fun _ => (4 : Nat) ≤ (4 : Nat),
    fun _ => decide (elL a = [(0 : Int), (0 : Int), (0 : Int), (0 : Int)]) = false,
    fun _ => ((↑(remE a) : Int) == (0 : Int)) = true,
    fun _ => decide (elL (0 : Nat) = [(0 : Int), (0 : Int), (0 : Int), (0 : Int)]) = false] (Res.v (Value.bool false)),
  EndP.mk [(!decide (elL ((a + b) % top) = elL ((a + b) % top))) = false, (!decide (top ≤ a + b) == decide (top ≤ a + b)) = false, (!decide (elL a = elL a)) = false, (!decide (top ≤ a + b) == decide (top ≤ a + b)) = false, (!decide (elL (a * b % top) = elL (a * b % top))) = false, (!decide (elL (a * b / top) = elL (a * b / top))) = false, decide (elL a = [(0 : Int), (0 : Int), (0 : Int), (0 : Int)]) = false, ((↑(remE a) : Int) == (0 : Int)) = false] [fun _ => ([] : List RV) = [],
    fun _ => false = false,
    fun _ => el a = el (elN a) ∧ el b = el (elN b) ∧ elN a < top ∧ elN b < top,
    fun _ => Value.tuple (Array.mk [el (elN a + elN b), Value.bool (decide (top ≤ elN a + elN b))]) = Value.tuple (Array.mk [el ((a + b) % top), Value.bool (decide (top ≤ a + b))]),
    fun _ => (0 : Nat) + (4 : Nat) ≤ (4 : Nat),
    fun _ => el b = el (elN b) ∧ el a = el (elN a) ∧ elN b < top ∧ elN a < top,
    fun _ => Value.tuple (Array.mk [el (elN b + elN a), Value.bool (decide (top ≤ elN b + elN a))]) = Value.tuple (Array.mk [el ((a + b) % top), Value.bool (decide (top ≤ a + b))]),
    fun _ => (0 : Nat) + (4 : Nat) ≤ (4 : Nat),
    fun _ => el ((a + b) % top) = el (elN ((a + b) % top)) ∧ el b = el (elN b) ∧ elN ((a + b) % top) < top ∧ elN b < top,
    fun _ => Value.tuple (Array.mk [el (elN ((a + b) % top) + top - elN b), Value.bool (decide (elN ((a + b) % top) < elN b))]) = Value.tuple (Array.mk [el a, Value.bool (decide (top ≤ a + b))]),
    fun _ => (0 : Nat) + (4 : Nat) ≤ (4 : Nat),
    fun _ => el a = el (elN a) ∧ el b = el (elN b) ∧ elN a < top ∧ elN b < top,
    fun _ => Value.tuple (Array.mk [el (elN a * elN b % top), el (elN a * elN b / top)]) = Value.tuple (Array.mk [el (a * b % top), el (a * b / top)]),
    fun _ => (0 : Nat) + (4 : Nat) ≤ (4 : Nat),
    fun _ => (0 : Nat) + (4 : Nat) ≤ (4 : Nat),
    fun _ => el b = el (elN b) ∧ el a = el (elN a) ∧ elN b < top ∧ elN a < top,
    fun _ => Value.tuple (Array.mk [el (elN b * elN a % top), el (elN b * elN a / top)]) = Value.tuple (Array.mk [el (a * b % top), el (a * b / top)]),
    fun _ => (0 : Nat) + (4 : Nat) ≤ (4 : Nat),
    fun _ => (0 : Nat) + (4 : Nat) ≤ (4 : Nat),
    fun _ => (!decide (elL ((a + b) % top) = elL ((a + b) % top))) = false,
    fun _ => (!decide (top ≤ a + b) == decide (top ≤ a + b)) = false,
    fun _ => (!decide (elL a = elL a)) = false,
    fun _ => (!decide (top ≤ a + b) == decide (top ≤ a + b)) = false,
    fun _ => (!decide (elL (a * b % top) = elL (a * b % top))) = false,
    fun _ => (!decide (elL (a * b / top) = elL (a * b / top))) = false,
    fun _ => (4 : Nat) ≤ (4 : Nat),
    fun _ => el (a * b % top) = el (elN (a * b % top)) ∧ el (a * b / top) = el (elN (a * b / top)) ∧ el a = el (elN a) ∧ elN (a * b % top) < top ∧ elN (a * b / top) < top ∧ elN a < top,
    fun _ => remV (elN (a * b % top)) (elN (a * b / top)) (elN a) = Value.tuple (Array.mk [el (0 : Nat), Value.int IntKind.i64 (↑(remE a) : Int)]),
    fun _ => (4 : Nat) ≤ (4 : Nat),
    fun _ => decide (elL a = [(0 : Int), (0 : Int), (0 : Int), (0 : Int)]) = false,
    fun _ => ((↑(remE a) : Int) == (0 : Int)) = false,
    fun _ => false = false] (Res.v (Value.bool false))]
  := by kernel_rfl


theorem add_back (a b : Nat) : Value.tuple (Array.mk [el (a + b), Value.bool (decide (top ≤ a + b))]) = Value.tuple (Array.mk [el ((a + b) % top), Value.bool (decide (top ≤ a + b))]) := by
  rw [el_mod]
theorem add_back2 (a b : Nat) : Value.tuple (Array.mk [el (b + a), Value.bool (decide (top ≤ b + a))]) = Value.tuple (Array.mk [el ((a + b) % top), Value.bool (decide (top ≤ a + b))]) := by
  rw [el_mod, Nat.add_comm b a]
theorem sub_back (a b : Nat) (ha : a < top) (hb : b < top) : Value.tuple (Array.mk [el ((a + b) % top + top - b), Value.bool (decide ((a + b) % top < b))]) = Value.tuple (Array.mk [el a, Value.bool (decide (top ≤ a + b))]) := by
  by_cases h : top ≤ a + b
  · have h1 : (a + b) % top = a + b - top := by rw [Nat.mod_eq_sub_mod h, Nat.mod_eq_of_lt (by omega)]
    rw [h1, decide_eq_true h, decide_eq_true (by omega), show a + b - top + top - b = a by omega]
  · have h1 : (a + b) % top = a + b := Nat.mod_eq_of_lt (by omega)
    rw [h1, decide_eq_false h, decide_eq_false (by omega), show a + b + top - b = a + top by omega, ← el_mod, Nat.add_mod_right, el_mod]
theorem mul_back2 (a b : Nat) : Value.tuple (Array.mk [el (b * a % top), el (b * a / top)]) = Value.tuple (Array.mk [el (a * b % top), el (a * b / top)]) := by
  rw [Nat.mul_comm b a]
theorem rem_turn (a b : Nat) : remV (a * b % top) (a * b / top) a = Value.tuple (Array.mk [el 0, Value.int IntKind.i64 ((remE a : Nat) : Int)]) := by
  by_cases h : a = 0
  · subst h
    rw [remE_zero]
    rfl
  · rw [rem_back _ a h, remE_pos h, Nat.mul_mod_right]
    rfl
theorem less_turn (a b : Nat) (h : decide (elL a = elL b) = true) (ha : a < top) (hb : b < top) : a = b := elL_inj ha hb (of_decide_eq_true h)
theorem turns_ok (a b : Nat) (ha : a < top) (hb : b < top) (w : World) : Calls Try.prog 6 [el a, el b].toArray w (fun E w' => ∃ v, E = .returned v ∧ Res.ok w w' (.v (.bool true)) v ∧ Below w.heap.size w w') := by
  have d1 := prod_lt ha hb
  have t1 := mod_top (a + b)
  have t2 := mod_top (a * b)
  have p2 : (!decide (top ≤ a + b) == decide (top ≤ a + b)) = false := by simp
  refine con_end (calls_plain hm Try.func6 (by kernel_rfl) rfl rfl 50 _ _ (run6 a b) ⟨fun has => ?_, ⟨fun has => ?_, ⟨fun has => ?_, ⟨fun has => ?_, ⟨fun has => ?_, ⟨fun has => ?_, ⟨fun has => ?_, ⟨fun has => ?_, ⟨fun has => ?_, ⟨fun has => ?_, ⟨fun has => ?_, trivial⟩⟩⟩⟩⟩⟩⟩⟩⟩⟩⟩)
  · have h := has _ (List.mem_cons_self)
    simp at h
  · have h := has _ (List.mem_cons_of_mem _ (List.mem_cons_self))
    simp at h
  · have h := has _ (List.mem_cons_of_mem _ (List.mem_cons_of_mem _ (List.mem_cons_self)))
    simp at h
  · have h := has _ (List.mem_cons_of_mem _ (List.mem_cons_of_mem _ (List.mem_cons_of_mem _ (List.mem_cons_self))))
    simp at h
  · have h := has _ (List.mem_cons_of_mem _ (List.mem_cons_of_mem _ (List.mem_cons_of_mem _ (List.mem_cons_of_mem _ (List.mem_cons_self)))))
    simp at h
  · have h := has _ (List.mem_cons_of_mem _ (List.mem_cons_of_mem _ (List.mem_cons_of_mem _ (List.mem_cons_of_mem _ (List.mem_cons_of_mem _ (List.mem_cons_self))))))
    simp at h
  all_goals
    have h6 := has _ (List.mem_cons_of_mem _ (List.mem_cons_of_mem _ (List.mem_cons_of_mem _ (List.mem_cons_of_mem _ (List.mem_cons_of_mem _ (List.mem_cons_of_mem _ List.mem_cons_self))))))
  · have hz : a = 0 := elL_isZero ha (of_decide_eq_true h6)
    refine ⟨?_, ?_⟩
    · simp only [hold_cons, hold_nil, and_true, elN_eq ha, elN_eq hb, elN_eq d1, elN_eq t1, elN_eq t2, add_back, sub_back a b ha hb, mul_back2, rem_turn, p2]
      repeat' apply And.intro
      all_goals (intro _ _; first | trivial | assumption | (simp; done) | rw [Nat.add_comm b a] | exact decide_eq_true elL_zero | (rw [remE_pos (ne_zero_of h6)]; rfl) | omega)
    · subst hz
      rw [remE_zero]
      rfl
  all_goals
    have hz := ne_zero_of h6
    have hr := remE_pos hz
  · have h9 := has _ (List.mem_cons_of_mem _ (List.mem_cons_of_mem _ (List.mem_cons_of_mem _ (List.mem_cons_of_mem _ (List.mem_cons_of_mem _ (List.mem_cons_of_mem _ (List.mem_cons_of_mem _ (List.mem_cons_of_mem _ (List.mem_cons_of_mem _ List.mem_cons_self)))))))))
    refine ⟨?_, ?_⟩
    · simp only [hold_cons, hold_nil, and_true, elN_eq ha, elN_eq hb, elN_eq d1, elN_eq t1, elN_eq t2, add_back, sub_back a b ha hb, mul_back2, rem_turn, p2]
      repeat' apply And.intro
      all_goals (intro _ _; first | trivial | assumption | (simp; done) | rw [Nat.add_comm b a] | exact decide_eq_true elL_zero | (rw [remE_pos (ne_zero_of h6)]; rfl) | omega)
    · have h10 : b < a := of_decide_eq_true h9
      rw [decide_eq_false (by omega : ¬ a < b)]
      rfl
  · have h9 := has _ (List.mem_cons_of_mem _ (List.mem_cons_of_mem _ (List.mem_cons_of_mem _ (List.mem_cons_of_mem _ (List.mem_cons_of_mem _ (List.mem_cons_of_mem _ (List.mem_cons_of_mem _ (List.mem_cons_of_mem _ (List.mem_cons_of_mem _ List.mem_cons_self)))))))))
    refine ⟨?_, ?_⟩
    · simp only [hold_cons, hold_nil, and_true, elN_eq ha, elN_eq hb, elN_eq d1, elN_eq t1, elN_eq t2, add_back, sub_back a b ha hb, mul_back2, rem_turn, p2]
      repeat' apply And.intro
      all_goals (intro _ _; first | trivial | assumption | (simp; done) | rw [Nat.add_comm b a] | exact decide_eq_true elL_zero | (rw [remE_pos (ne_zero_of h6)]; rfl) | omega)
    · have h10 : ¬ b < a := of_decide_eq_false h9
      by_cases hab : a = b
      · subst hab
        simp
      · rw [decide_eq_true (by omega : a < b), decide_eq_false (fun hh => hab (elL_inj ha hb hh))]
        rfl
  · have h8 := has _ (List.mem_cons_of_mem _ (List.mem_cons_of_mem _ (List.mem_cons_of_mem _ (List.mem_cons_of_mem _ (List.mem_cons_of_mem _ (List.mem_cons_of_mem _ (List.mem_cons_of_mem _ (List.mem_cons_of_mem _ List.mem_cons_self))))))))
    rw [elL_zero] at h8
    simp at h8
  · have h7 := has _ (List.mem_cons_of_mem _ (List.mem_cons_of_mem _ (List.mem_cons_of_mem _ (List.mem_cons_of_mem _ (List.mem_cons_of_mem _ (List.mem_cons_of_mem _ (List.mem_cons_of_mem _ List.mem_cons_self)))))))
    rw [hr] at h7
    simp at h7
end Go.Proofs.Ytcipmpamhffclaa
