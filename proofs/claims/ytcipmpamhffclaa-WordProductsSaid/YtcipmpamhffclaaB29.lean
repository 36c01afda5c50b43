/- The document's small steps of a remainder: states. -/
import Derived.Test.YtcipmpamhffclaaB26
namespace Go.Proofs.Ytcipmpamhffclaa
open Go.Sx Go.Pl Go.RowKit
def qN : List Nat := [0,0,1,0,1,1,1]
noncomputable def stN (a b : Nat) (i : Int) (c o0 o1 o2 o3 : Nat) : St :=
  ⟨[(7, .v (.int .i64 i)), (6, .v (.int .u64 (c : Int))), (5, .p 3 0), (4, .p 2 0), (3, .p 1 0), (2, .p 0 0)],
    [.cells (ec a) 24, .cells (ec b) 24, .cells (ec 0) 24, .cells [.v (.int .u64 (o0 : Int)), .v (.int .u64 (o1 : Int)), .v (.int .u64 (o2 : Int)), .v (.int .u64 (o3 : Int))] 24]⟩
end Go.Proofs.Ytcipmpamhffclaa

namespace Go.Proofs.Ytcipmpamhffclaa
open Go.Sx Go.Pl Go.RowKit
theorem run36 (a : Nat) : (((xgo Try.prog X (bodyOf Try.f36) 27 CI [([0,1,0,1,1,1],5)] 50 [Dec.t, Dec.t, Dec.t, Dec.t, Dec.f] (Tree.nil) [.at []] ⟨argsTm 0 [el a], []⟩ [] []).bind (ends Try.prog Try.f36.results.toList)).bind plainE) =
  some [EndP.mk [] [fun _ => (4 : Nat) ≤ (4 : Nat),
    fun _ => true = true,
    fun _ => (0 : Int) ≤ (0 : Int) ∧ (0 : Int) < (4 : Int),
    fun _ => ¬(1 : Int) < (0 : Int),
    fun _ => (0 : Int) ≤ (0 : Int) ∧ (0 : Int) < (4 : Int),
    fun _ => (0 : Nat) + (1 : Nat) ≤ (4 : Nat),
    fun _ => (0 : Int) ≤ (0 : Int) ∧ (0 : Int) < (4 : Int),
    fun _ => ¬(63 : Int) < (0 : Int),
    fun _ => true = true,
    fun _ => (0 : Int) ≤ (1 : Int) ∧ (1 : Int) < (4 : Int),
    fun _ => ¬(1 : Int) < (0 : Int),
    fun _ => (0 : Int) ≤ (1 : Int) ∧ (1 : Int) < (4 : Int),
    fun _ => (1 : Nat) + (1 : Nat) ≤ (4 : Nat),
    fun _ => (0 : Int) ≤ (1 : Int) ∧ (1 : Int) < (4 : Int),
    fun _ => ¬(63 : Int) < (0 : Int),
    fun _ => true = true,
    fun _ => (0 : Int) ≤ (2 : Int) ∧ (2 : Int) < (4 : Int),
    fun _ => ¬(1 : Int) < (0 : Int),
    fun _ => (0 : Int) ≤ (2 : Int) ∧ (2 : Int) < (4 : Int),
    fun _ => (2 : Nat) + (1 : Nat) ≤ (4 : Nat),
    fun _ => (0 : Int) ≤ (2 : Int) ∧ (2 : Int) < (4 : Int),
    fun _ => ¬(63 : Int) < (0 : Int),
    fun _ => true = true,
    fun _ => (0 : Int) ≤ (3 : Int) ∧ (3 : Int) < (4 : Int),
    fun _ => ¬(1 : Int) < (0 : Int),
    fun _ => (0 : Int) ≤ (3 : Int) ∧ (3 : Int) < (4 : Int),
    fun _ => (3 : Nat) + (1 : Nat) ≤ (4 : Nat),
    fun _ => (0 : Int) ≤ (3 : Int) ∧ (3 : Int) < (4 : Int),
    fun _ => ¬(63 : Int) < (0 : Int),
    fun _ => false = false,
    fun _ => (0 : Nat) + (4 : Nat) ≤ (4 : Nat)] (Res.v (Value.tuple (Array.mk [Value.agg (Array.mk [Value.int IntKind.u64 (IntKind.wrap IntKind.u64 (↑(Int.toNat (IntKind.wrap IntKind.u64 ((↑(limb a (0 : Nat)) : Int) * (2 : Int)) % (18446744073709551616 : Int)) ||| (0 : Nat)) : Int)), Value.int IntKind.u64 (IntKind.wrap IntKind.u64 (↑(Int.toNat (IntKind.wrap IntKind.u64 ((↑(limb a (1 : Nat)) : Int) * (2 : Int)) % (18446744073709551616 : Int)) ||| Int.toNat (Int.fdiv (↑(limb a (0 : Nat)) : Int) (9223372036854775808 : Int) % (18446744073709551616 : Int))) : Int)), Value.int IntKind.u64 (IntKind.wrap IntKind.u64 (↑(Int.toNat (IntKind.wrap IntKind.u64 ((↑(limb a (2 : Nat)) : Int) * (2 : Int)) % (18446744073709551616 : Int)) ||| Int.toNat (Int.fdiv (↑(limb a (1 : Nat)) : Int) (9223372036854775808 : Int) % (18446744073709551616 : Int))) : Int)), Value.int IntKind.u64 (IntKind.wrap IntKind.u64 (↑(Int.toNat (IntKind.wrap IntKind.u64 ((↑(limb a (3 : Nat)) : Int) * (2 : Int)) % (18446744073709551616 : Int)) ||| Int.toNat (Int.fdiv (↑(limb a (2 : Nat)) : Int) (9223372036854775808 : Int) % (18446744073709551616 : Int))) : Int))]), Value.bool (Int.fdiv (↑(limb a (3 : Nat)) : Int) (9223372036854775808 : Int) == (1 : Int))])))]
  := by kernel_rfl

theorem run37 (a b : Nat) : (((xgo Try.prog X (bodyOf Try.f37) 24 CI [([0,1,0,1],5)] 50 [Dec.t] (Tree.br [] Tree.nil [Dec.t] (Tree.br [] Tree.nil [Dec.t] (Tree.br [] Tree.nil [Dec.t] (Tree.br [] Tree.nil [Dec.f] Tree.nil)))) [.at []] ⟨argsTm 0 [el a, el b], []⟩ [] []).bind (ends Try.prog Try.f37.results.toList)).bind plainE) =
  some [EndP.mk [(!(↑(limb a (3 : Nat)) : Int) == (↑(limb b (3 : Nat)) : Int)) = true] [fun _ => true = true,
    fun _ => (0 : Int) ≤ (3 : Int) ∧ (3 : Int) < (4 : Int),
    fun _ => (0 : Int) ≤ (3 : Int) ∧ (3 : Int) < (4 : Int),
    fun _ => (!(↑(limb a (3 : Nat)) : Int) == (↑(limb b (3 : Nat)) : Int)) = true,
    fun _ => (0 : Int) ≤ (3 : Int) ∧ (3 : Int) < (4 : Int),
    fun _ => (0 : Int) ≤ (3 : Int) ∧ (3 : Int) < (4 : Int)] (Res.v (Value.bool (decide ((↑(limb a (3 : Nat)) : Int) < (↑(limb b (3 : Nat)) : Int))))),
  EndP.mk [(!(↑(limb a (3 : Nat)) : Int) == (↑(limb b (3 : Nat)) : Int)) = false, (!(↑(limb a (2 : Nat)) : Int) == (↑(limb b (2 : Nat)) : Int)) = true] [fun _ => true = true,
    fun _ => (0 : Int) ≤ (3 : Int) ∧ (3 : Int) < (4 : Int),
    fun _ => (0 : Int) ≤ (3 : Int) ∧ (3 : Int) < (4 : Int),
    fun _ => (!(↑(limb a (3 : Nat)) : Int) == (↑(limb b (3 : Nat)) : Int)) = false,
    fun _ => true = true,
    fun _ => (0 : Int) ≤ (2 : Int) ∧ (2 : Int) < (4 : Int),
    fun _ => (0 : Int) ≤ (2 : Int) ∧ (2 : Int) < (4 : Int),
    fun _ => (!(↑(limb a (2 : Nat)) : Int) == (↑(limb b (2 : Nat)) : Int)) = true,
    fun _ => (0 : Int) ≤ (2 : Int) ∧ (2 : Int) < (4 : Int),
    fun _ => (0 : Int) ≤ (2 : Int) ∧ (2 : Int) < (4 : Int)] (Res.v (Value.bool (decide ((↑(limb a (2 : Nat)) : Int) < (↑(limb b (2 : Nat)) : Int))))),
  EndP.mk [(!(↑(limb a (3 : Nat)) : Int) == (↑(limb b (3 : Nat)) : Int)) = false, (!(↑(limb a (2 : Nat)) : Int) == (↑(limb b (2 : Nat)) : Int)) = false, (!(↑(limb a (1 : Nat)) : Int) == (↑(limb b (1 : Nat)) : Int)) = true] [fun _ => true = true,
    fun _ => (0 : Int) ≤ (3 : Int) ∧ (3 : Int) < (4 : Int),
    fun _ => (0 : Int) ≤ (3 : Int) ∧ (3 : Int) < (4 : Int),
    fun _ => (!(↑(limb a (3 : Nat)) : Int) == (↑(limb b (3 : Nat)) : Int)) = false,
    fun _ => true = true,
    fun _ => (0 : Int) ≤ (2 : Int) ∧ (2 : Int) < (4 : Int),
    fun _ => (0 : Int) ≤ (2 : Int) ∧ (2 : Int) < (4 : Int),
    fun _ => (!(↑(limb a (2 : Nat)) : Int) == (↑(limb b (2 : Nat)) : Int)) = false,
    fun _ => true = true,
    fun _ => (0 : Int) ≤ (1 : Int) ∧ (1 : Int) < (4 : Int),
    fun _ => (0 : Int) ≤ (1 : Int) ∧ (1 : Int) < (4 : Int),
    fun _ => (!(↑(limb a (1 : Nat)) : Int) == (↑(limb b (1 : Nat)) : Int)) = true,
    fun _ => (0 : Int) ≤ (1 : Int) ∧ (1 : Int) < (4 : Int),
    fun _ => (0 : Int) ≤ (1 : Int) ∧ (1 : Int) < (4 : Int)] (Res.v (Value.bool (decide ((↑(limb a (1 : Nat)) : Int) < (↑(limb b (1 : Nat)) : Int))))),
  EndP.mk [(!(↑(limb a (3 : Nat)) : Int) == (↑(limb b (3 : Nat)) : Int)) = false, (!(↑(limb a (2 : Nat)) : Int) == (↑(limb b (2 : Nat)) : Int)) = false, (!(↑(limb a (1 : Nat)) : Int) == (↑(limb b (1 : Nat)) : Int)) = false, (!(↑(limb a (0 : Nat)) : Int) == (↑(limb b (0 : Nat)) : Int)) = true] [fun _ => true = true,
    fun _ => (0 : Int) ≤ (3 : Int) ∧ (3 : Int) < (4 : Int),
    fun _ => (0 : Int) ≤ (3 : Int) ∧ (3 : Int) < (4 : Int),
    fun _ => (!(↑(limb a (3 : Nat)) : Int) == (↑(limb b (3 : Nat)) : Int)) = false,
    fun _ => true = true,
    fun _ => (0 : Int) ≤ (2 : Int) ∧ (2 : Int) < (4 : Int),
    fun _ => (0 : Int) ≤ (2 : Int) ∧ (2 : Int) < (4 : Int),
    fun _ => (!(↑(limb a (2 : Nat)) : Int) == (↑(limb b (2 : Nat)) : Int)) = false,
    fun _ => true = true,
    fun _ => (0 : Int) ≤ (1 : Int) ∧ (1 : Int) < (4 : Int),
    fun _ => (0 : Int) ≤ (1 : Int) ∧ (1 : Int) < (4 : Int),
    fun _ => (!(↑(limb a (1 : Nat)) : Int) == (↑(limb b (1 : Nat)) : Int)) = false,
    fun _ => true = true,
    fun _ => (0 : Int) ≤ (0 : Int) ∧ (0 : Int) < (4 : Int),
    fun _ => (0 : Int) ≤ (0 : Int) ∧ (0 : Int) < (4 : Int),
    fun _ => (!(↑(limb a (0 : Nat)) : Int) == (↑(limb b (0 : Nat)) : Int)) = true,
    fun _ => (0 : Int) ≤ (0 : Int) ∧ (0 : Int) < (4 : Int),
    fun _ => (0 : Int) ≤ (0 : Int) ∧ (0 : Int) < (4 : Int)] (Res.v (Value.bool (decide ((↑(limb a (0 : Nat)) : Int) < (↑(limb b (0 : Nat)) : Int))))),
  EndP.mk [(!(↑(limb a (3 : Nat)) : Int) == (↑(limb b (3 : Nat)) : Int)) = false, (!(↑(limb a (2 : Nat)) : Int) == (↑(limb b (2 : Nat)) : Int)) = false, (!(↑(limb a (1 : Nat)) : Int) == (↑(limb b (1 : Nat)) : Int)) = false, (!(↑(limb a (0 : Nat)) : Int) == (↑(limb b (0 : Nat)) : Int)) = false] [fun _ => true = true,
    fun _ => (0 : Int) ≤ (3 : Int) ∧ (3 : Int) < (4 : Int),
    fun _ => (0 : Int) ≤ (3 : Int) ∧ (3 : Int) < (4 : Int),
    fun _ => (!(↑(limb a (3 : Nat)) : Int) == (↑(limb b (3 : Nat)) : Int)) = false,
    fun _ => true = true,
    fun _ => (0 : Int) ≤ (2 : Int) ∧ (2 : Int) < (4 : Int),
    fun _ => (0 : Int) ≤ (2 : Int) ∧ (2 : Int) < (4 : Int),
    fun _ => (!(↑(limb a (2 : Nat)) : Int) == (↑(limb b (2 : Nat)) : Int)) = false,
    fun _ => true = true,
    fun _ => (0 : Int) ≤ (1 : Int) ∧ (1 : Int) < (4 : Int),
    fun _ => (0 : Int) ≤ (1 : Int) ∧ (1 : Int) < (4 : Int),
    fun _ => (!(↑(limb a (1 : Nat)) : Int) == (↑(limb b (1 : Nat)) : Int)) = false,
    fun _ => true = true,
    fun _ => (0 : Int) ≤ (0 : Int) ∧ (0 : Int) < (4 : Int),
    fun _ => (0 : Int) ≤ (0 : Int) ∧ (0 : Int) < (4 : Int),
    fun _ => (!(↑(limb a (0 : Nat)) : Int) == (↑(limb b (0 : Nat)) : Int)) = false,
    fun _ => false = false] (Res.v (Value.bool false))]
  := by kernel_rfl

theorem minusStart (a b : Nat) : ((xgo Try.prog X (bodyOf Try.f38) 41 CI [] 50 [] (Tree.nil) [.at []] ⟨argsTm 0 [el a, el b], []⟩ [] []).map (trims [7, 6, 5, 4, 3, 2])) =
  some [Leaf2.mk [] [fun _ => (4 : Nat) ≤ (4 : Nat)] [It.at [(0 : Nat), (1 : Nat), (0 : Nat), (1 : Nat), (1 : Nat), (1 : Nat)], It.blk (0 : Nat), It.at [(1 : Nat), (1 : Nat), (1 : Nat), (1 : Nat)]] (St.mk [((7 : Nat), SV.v (Value.int IntKind.i64 (0 : Int))), ((6 : Nat), SV.v (Value.int IntKind.u64 (0 : Int))), ((5 : Nat), SV.p (3 : Nat) (0 : Nat)), ((4 : Nat), SV.p (2 : Nat) (0 : Nat)), ((3 : Nat), SV.p (1 : Nat) (0 : Nat)), ((2 : Nat), SV.p (0 : Nat) (0 : Nat))] [HO.cells (ec a) (24 : Nat), HO.cells (ec b) (24 : Nat), HO.cells [SV.v (Value.int IntKind.u64 (0 : Int)), SV.v (Value.int IntKind.u64 (0 : Int)), SV.v (Value.int IntKind.u64 (0 : Int)), SV.v (Value.int IntKind.u64 (0 : Int))] (24 : Nat), HO.cells [SV.v (Value.int IntKind.u64 (0 : Int)), SV.v (Value.int IntKind.u64 (0 : Int)), SV.v (Value.int IntKind.u64 (0 : Int)), SV.v (Value.int IntKind.u64 (0 : Int))] (24 : Nat)])]
  := by kernel_rfl

theorem minusRow0 (a b c o0 o1 o2 o3 M : Nat) (kt : List It) : ((xgo Try.prog X (bodyOf Try.f38) 41 CI [] 50 [Dec.t] (Tree.br [Dec.t] Tree.nil [] (Tree.br [] Tree.nil [] Tree.nil)) (.at qN :: .rnd qN (M+1) :: kt) (stN a b 0 c o0 o1 o2 o3) [] []).map (trims [7, 6, 5, 4, 3, 2])) =
  some [Leaf2.mk [decide ((↑(limb a (0 : Nat)) : Int) < (↑(limb b (0 : Nat)) : Int)) = true] [fun _ => true = true,
    fun _ => (0 : Int) ≤ (0 : Int) ∧ (0 : Int) < (4 : Int),
    fun _ => (0 : Int) ≤ (0 : Int) ∧ (0 : Int) < (4 : Int),
    fun _ => (0 : Int) ≤ (0 : Int) ∧ (0 : Int) < (4 : Int),
    fun _ => (0 : Int) ≤ (0 : Int) ∧ (0 : Int) < (4 : Int),
    fun _ => decide ((↑(limb a (0 : Nat)) : Int) < (↑(limb b (0 : Nat)) : Int)) = true,
    fun _ => true = true,
    fun _ => (0 : Int) ≤ (0 : Int) ∧ (0 : Int) < (4 : Int),
    fun _ => (0 : Nat) + (1 : Nat) ≤ (4 : Nat)] (It.rnd [(0 : Nat), (0 : Nat), (1 : Nat), (0 : Nat), (1 : Nat), (1 : Nat), (1 : Nat)] (M + (1 : Nat)) :: kt) (St.mk [((7 : Nat), SV.v (Value.int IntKind.i64 (1 : Int))), ((6 : Nat), SV.v (Value.int IntKind.u64 (1 : Int))), ((5 : Nat), SV.p (3 : Nat) (0 : Nat)), ((4 : Nat), SV.p (2 : Nat) (0 : Nat)), ((3 : Nat), SV.p (1 : Nat) (0 : Nat)), ((2 : Nat), SV.p (0 : Nat) (0 : Nat))] [HO.cells (ec a) (24 : Nat), HO.cells (ec b) (24 : Nat), HO.cells (ec (0 : Nat)) (24 : Nat), HO.cells [SV.v (Value.int IntKind.u64 (IntKind.wrap IntKind.u64 (IntKind.wrap IntKind.u64 ((↑(limb a (0 : Nat)) : Int) - (↑(limb b (0 : Nat)) : Int)) - (↑c : Int)))), SV.v (Value.int IntKind.u64 (↑o1 : Int)), SV.v (Value.int IntKind.u64 (↑o2 : Int)), SV.v (Value.int IntKind.u64 (↑o3 : Int))] (24 : Nat)]),
  Leaf2.mk [decide ((↑(limb a (0 : Nat)) : Int) < (↑(limb b (0 : Nat)) : Int)) = false, decide (IntKind.wrap IntKind.u64 ((↑(limb a (0 : Nat)) : Int) - (↑(limb b (0 : Nat)) : Int)) < (↑c : Int)) = true] [fun _ => true = true,
    fun _ => (0 : Int) ≤ (0 : Int) ∧ (0 : Int) < (4 : Int),
    fun _ => (0 : Int) ≤ (0 : Int) ∧ (0 : Int) < (4 : Int),
    fun _ => (0 : Int) ≤ (0 : Int) ∧ (0 : Int) < (4 : Int),
    fun _ => (0 : Int) ≤ (0 : Int) ∧ (0 : Int) < (4 : Int),
    fun _ => decide ((↑(limb a (0 : Nat)) : Int) < (↑(limb b (0 : Nat)) : Int)) = false,
    fun _ => decide (IntKind.wrap IntKind.u64 ((↑(limb a (0 : Nat)) : Int) - (↑(limb b (0 : Nat)) : Int)) < (↑c : Int)) = true,
    fun _ => (0 : Int) ≤ (0 : Int) ∧ (0 : Int) < (4 : Int),
    fun _ => (0 : Nat) + (1 : Nat) ≤ (4 : Nat)] (It.rnd [(0 : Nat), (0 : Nat), (1 : Nat), (0 : Nat), (1 : Nat), (1 : Nat), (1 : Nat)] (M + (1 : Nat)) :: kt) (St.mk [((7 : Nat), SV.v (Value.int IntKind.i64 (1 : Int))), ((6 : Nat), SV.v (Value.int IntKind.u64 (1 : Int))), ((5 : Nat), SV.p (3 : Nat) (0 : Nat)), ((4 : Nat), SV.p (2 : Nat) (0 : Nat)), ((3 : Nat), SV.p (1 : Nat) (0 : Nat)), ((2 : Nat), SV.p (0 : Nat) (0 : Nat))] [HO.cells (ec a) (24 : Nat), HO.cells (ec b) (24 : Nat), HO.cells (ec (0 : Nat)) (24 : Nat), HO.cells [SV.v (Value.int IntKind.u64 (IntKind.wrap IntKind.u64 (IntKind.wrap IntKind.u64 ((↑(limb a (0 : Nat)) : Int) - (↑(limb b (0 : Nat)) : Int)) - (↑c : Int)))), SV.v (Value.int IntKind.u64 (↑o1 : Int)), SV.v (Value.int IntKind.u64 (↑o2 : Int)), SV.v (Value.int IntKind.u64 (↑o3 : Int))] (24 : Nat)]),
  Leaf2.mk [decide ((↑(limb a (0 : Nat)) : Int) < (↑(limb b (0 : Nat)) : Int)) = false, decide (IntKind.wrap IntKind.u64 ((↑(limb a (0 : Nat)) : Int) - (↑(limb b (0 : Nat)) : Int)) < (↑c : Int)) = false] [fun _ => true = true,
    fun _ => (0 : Int) ≤ (0 : Int) ∧ (0 : Int) < (4 : Int),
    fun _ => (0 : Int) ≤ (0 : Int) ∧ (0 : Int) < (4 : Int),
    fun _ => (0 : Int) ≤ (0 : Int) ∧ (0 : Int) < (4 : Int),
    fun _ => (0 : Int) ≤ (0 : Int) ∧ (0 : Int) < (4 : Int),
    fun _ => decide ((↑(limb a (0 : Nat)) : Int) < (↑(limb b (0 : Nat)) : Int)) = false,
    fun _ => decide (IntKind.wrap IntKind.u64 ((↑(limb a (0 : Nat)) : Int) - (↑(limb b (0 : Nat)) : Int)) < (↑c : Int)) = false,
    fun _ => (0 : Int) ≤ (0 : Int) ∧ (0 : Int) < (4 : Int),
    fun _ => (0 : Nat) + (1 : Nat) ≤ (4 : Nat)] (It.rnd [(0 : Nat), (0 : Nat), (1 : Nat), (0 : Nat), (1 : Nat), (1 : Nat), (1 : Nat)] (M + (1 : Nat)) :: kt) (St.mk [((7 : Nat), SV.v (Value.int IntKind.i64 (1 : Int))), ((6 : Nat), SV.v (Value.int IntKind.u64 (0 : Int))), ((5 : Nat), SV.p (3 : Nat) (0 : Nat)), ((4 : Nat), SV.p (2 : Nat) (0 : Nat)), ((3 : Nat), SV.p (1 : Nat) (0 : Nat)), ((2 : Nat), SV.p (0 : Nat) (0 : Nat))] [HO.cells (ec a) (24 : Nat), HO.cells (ec b) (24 : Nat), HO.cells (ec (0 : Nat)) (24 : Nat), HO.cells [SV.v (Value.int IntKind.u64 (IntKind.wrap IntKind.u64 (IntKind.wrap IntKind.u64 ((↑(limb a (0 : Nat)) : Int) - (↑(limb b (0 : Nat)) : Int)) - (↑c : Int)))), SV.v (Value.int IntKind.u64 (↑o1 : Int)), SV.v (Value.int IntKind.u64 (↑o2 : Int)), SV.v (Value.int IntKind.u64 (↑o3 : Int))] (24 : Nat)])]
  := by kernel_rfl

theorem minusRow1 (a b c o0 o1 o2 o3 M : Nat) (kt : List It) : ((xgo Try.prog X (bodyOf Try.f38) 41 CI [] 50 [Dec.t] (Tree.br [Dec.t] Tree.nil [] (Tree.br [] Tree.nil [] Tree.nil)) (.at qN :: .rnd qN (M+1) :: kt) (stN a b 1 c o0 o1 o2 o3) [] []).map (trims [7, 6, 5, 4, 3, 2])) =
  some [Leaf2.mk [decide ((↑(limb a (1 : Nat)) : Int) < (↑(limb b (1 : Nat)) : Int)) = true] [fun _ => true = true,
    fun _ => (0 : Int) ≤ (1 : Int) ∧ (1 : Int) < (4 : Int),
    fun _ => (0 : Int) ≤ (1 : Int) ∧ (1 : Int) < (4 : Int),
    fun _ => (0 : Int) ≤ (1 : Int) ∧ (1 : Int) < (4 : Int),
    fun _ => (0 : Int) ≤ (1 : Int) ∧ (1 : Int) < (4 : Int),
    fun _ => decide ((↑(limb a (1 : Nat)) : Int) < (↑(limb b (1 : Nat)) : Int)) = true,
    fun _ => true = true,
    fun _ => (0 : Int) ≤ (1 : Int) ∧ (1 : Int) < (4 : Int),
    fun _ => (1 : Nat) + (1 : Nat) ≤ (4 : Nat)] (It.rnd [(0 : Nat), (0 : Nat), (1 : Nat), (0 : Nat), (1 : Nat), (1 : Nat), (1 : Nat)] (M + (1 : Nat)) :: kt) (St.mk [((7 : Nat), SV.v (Value.int IntKind.i64 (2 : Int))), ((6 : Nat), SV.v (Value.int IntKind.u64 (1 : Int))), ((5 : Nat), SV.p (3 : Nat) (0 : Nat)), ((4 : Nat), SV.p (2 : Nat) (0 : Nat)), ((3 : Nat), SV.p (1 : Nat) (0 : Nat)), ((2 : Nat), SV.p (0 : Nat) (0 : Nat))] [HO.cells (ec a) (24 : Nat), HO.cells (ec b) (24 : Nat), HO.cells (ec (0 : Nat)) (24 : Nat), HO.cells [SV.v (Value.int IntKind.u64 (↑o0 : Int)), SV.v (Value.int IntKind.u64 (IntKind.wrap IntKind.u64 (IntKind.wrap IntKind.u64 ((↑(limb a (1 : Nat)) : Int) - (↑(limb b (1 : Nat)) : Int)) - (↑c : Int)))), SV.v (Value.int IntKind.u64 (↑o2 : Int)), SV.v (Value.int IntKind.u64 (↑o3 : Int))] (24 : Nat)]),
  Leaf2.mk [decide ((↑(limb a (1 : Nat)) : Int) < (↑(limb b (1 : Nat)) : Int)) = false, decide (IntKind.wrap IntKind.u64 ((↑(limb a (1 : Nat)) : Int) - (↑(limb b (1 : Nat)) : Int)) < (↑c : Int)) = true] [fun _ => true = true,
    fun _ => (0 : Int) ≤ (1 : Int) ∧ (1 : Int) < (4 : Int),
    fun _ => (0 : Int) ≤ (1 : Int) ∧ (1 : Int) < (4 : Int),
    fun _ => (0 : Int) ≤ (1 : Int) ∧ (1 : Int) < (4 : Int),
    fun _ => (0 : Int) ≤ (1 : Int) ∧ (1 : Int) < (4 : Int),
    fun _ => decide ((↑(limb a (1 : Nat)) : Int) < (↑(limb b (1 : Nat)) : Int)) = false,
    fun _ => decide (IntKind.wrap IntKind.u64 ((↑(limb a (1 : Nat)) : Int) - (↑(limb b (1 : Nat)) : Int)) < (↑c : Int)) = true,
    fun _ => (0 : Int) ≤ (1 : Int) ∧ (1 : Int) < (4 : Int),
    fun _ => (1 : Nat) + (1 : Nat) ≤ (4 : Nat)] (It.rnd [(0 : Nat), (0 : Nat), (1 : Nat), (0 : Nat), (1 : Nat), (1 : Nat), (1 : Nat)] (M + (1 : Nat)) :: kt) (St.mk [((7 : Nat), SV.v (Value.int IntKind.i64 (2 : Int))), ((6 : Nat), SV.v (Value.int IntKind.u64 (1 : Int))), ((5 : Nat), SV.p (3 : Nat) (0 : Nat)), ((4 : Nat), SV.p (2 : Nat) (0 : Nat)), ((3 : Nat), SV.p (1 : Nat) (0 : Nat)), ((2 : Nat), SV.p (0 : Nat) (0 : Nat))] [HO.cells (ec a) (24 : Nat), HO.cells (ec b) (24 : Nat), HO.cells (ec (0 : Nat)) (24 : Nat), HO.cells [SV.v (Value.int IntKind.u64 (↑o0 : Int)), SV.v (Value.int IntKind.u64 (IntKind.wrap IntKind.u64 (IntKind.wrap IntKind.u64 ((↑(limb a (1 : Nat)) : Int) - (↑(limb b (1 : Nat)) : Int)) - (↑c : Int)))), SV.v (Value.int IntKind.u64 (↑o2 : Int)), SV.v (Value.int IntKind.u64 (↑o3 : Int))] (24 : Nat)]),
  Leaf2.mk [decide ((↑(limb a (1 : Nat)) : Int) < (↑(limb b (1 : Nat)) : Int)) = false, decide (IntKind.wrap IntKind.u64 ((↑(limb a (1 : Nat)) : Int) - (↑(limb b (1 : Nat)) : Int)) < (↑c : Int)) = false] [fun _ => true = true,
    fun _ => (0 : Int) ≤ (1 : Int) ∧ (1 : Int) < (4 : Int),
    fun _ => (0 : Int) ≤ (1 : Int) ∧ (1 : Int) < (4 : Int),
    fun _ => (0 : Int) ≤ (1 : Int) ∧ (1 : Int) < (4 : Int),
    fun _ => (0 : Int) ≤ (1 : Int) ∧ (1 : Int) < (4 : Int),
    fun _ => decide ((↑(limb a (1 : Nat)) : Int) < (↑(limb b (1 : Nat)) : Int)) = false,
    fun _ => decide (IntKind.wrap IntKind.u64 ((↑(limb a (1 : Nat)) : Int) - (↑(limb b (1 : Nat)) : Int)) < (↑c : Int)) = false,
    fun _ => (0 : Int) ≤ (1 : Int) ∧ (1 : Int) < (4 : Int),
    fun _ => (1 : Nat) + (1 : Nat) ≤ (4 : Nat)] (It.rnd [(0 : Nat), (0 : Nat), (1 : Nat), (0 : Nat), (1 : Nat), (1 : Nat), (1 : Nat)] (M + (1 : Nat)) :: kt) (St.mk [((7 : Nat), SV.v (Value.int IntKind.i64 (2 : Int))), ((6 : Nat), SV.v (Value.int IntKind.u64 (0 : Int))), ((5 : Nat), SV.p (3 : Nat) (0 : Nat)), ((4 : Nat), SV.p (2 : Nat) (0 : Nat)), ((3 : Nat), SV.p (1 : Nat) (0 : Nat)), ((2 : Nat), SV.p (0 : Nat) (0 : Nat))] [HO.cells (ec a) (24 : Nat), HO.cells (ec b) (24 : Nat), HO.cells (ec (0 : Nat)) (24 : Nat), HO.cells [SV.v (Value.int IntKind.u64 (↑o0 : Int)), SV.v (Value.int IntKind.u64 (IntKind.wrap IntKind.u64 (IntKind.wrap IntKind.u64 ((↑(limb a (1 : Nat)) : Int) - (↑(limb b (1 : Nat)) : Int)) - (↑c : Int)))), SV.v (Value.int IntKind.u64 (↑o2 : Int)), SV.v (Value.int IntKind.u64 (↑o3 : Int))] (24 : Nat)])]
  := by kernel_rfl

theorem minusRow2 (a b c o0 o1 o2 o3 M : Nat) (kt : List It) : ((xgo Try.prog X (bodyOf Try.f38) 41 CI [] 50 [Dec.t] (Tree.br [Dec.t] Tree.nil [] (Tree.br [] Tree.nil [] Tree.nil)) (.at qN :: .rnd qN (M+1) :: kt) (stN a b 2 c o0 o1 o2 o3) [] []).map (trims [7, 6, 5, 4, 3, 2])) =
  some [Leaf2.mk [decide ((↑(limb a (2 : Nat)) : Int) < (↑(limb b (2 : Nat)) : Int)) = true] [fun _ => true = true,
    fun _ => (0 : Int) ≤ (2 : Int) ∧ (2 : Int) < (4 : Int),
    fun _ => (0 : Int) ≤ (2 : Int) ∧ (2 : Int) < (4 : Int),
    fun _ => (0 : Int) ≤ (2 : Int) ∧ (2 : Int) < (4 : Int),
    fun _ => (0 : Int) ≤ (2 : Int) ∧ (2 : Int) < (4 : Int),
    fun _ => decide ((↑(limb a (2 : Nat)) : Int) < (↑(limb b (2 : Nat)) : Int)) = true,
    fun _ => true = true,
    fun _ => (0 : Int) ≤ (2 : Int) ∧ (2 : Int) < (4 : Int),
    fun _ => (2 : Nat) + (1 : Nat) ≤ (4 : Nat)] (It.rnd [(0 : Nat), (0 : Nat), (1 : Nat), (0 : Nat), (1 : Nat), (1 : Nat), (1 : Nat)] (M + (1 : Nat)) :: kt) (St.mk [((7 : Nat), SV.v (Value.int IntKind.i64 (3 : Int))), ((6 : Nat), SV.v (Value.int IntKind.u64 (1 : Int))), ((5 : Nat), SV.p (3 : Nat) (0 : Nat)), ((4 : Nat), SV.p (2 : Nat) (0 : Nat)), ((3 : Nat), SV.p (1 : Nat) (0 : Nat)), ((2 : Nat), SV.p (0 : Nat) (0 : Nat))] [HO.cells (ec a) (24 : Nat), HO.cells (ec b) (24 : Nat), HO.cells (ec (0 : Nat)) (24 : Nat), HO.cells [SV.v (Value.int IntKind.u64 (↑o0 : Int)), SV.v (Value.int IntKind.u64 (↑o1 : Int)), SV.v (Value.int IntKind.u64 (IntKind.wrap IntKind.u64 (IntKind.wrap IntKind.u64 ((↑(limb a (2 : Nat)) : Int) - (↑(limb b (2 : Nat)) : Int)) - (↑c : Int)))), SV.v (Value.int IntKind.u64 (↑o3 : Int))] (24 : Nat)]),
  Leaf2.mk [decide ((↑(limb a (2 : Nat)) : Int) < (↑(limb b (2 : Nat)) : Int)) = false, decide (IntKind.wrap IntKind.u64 ((↑(limb a (2 : Nat)) : Int) - (↑(limb b (2 : Nat)) : Int)) < (↑c : Int)) = true] [fun _ => true = true,
    fun _ => (0 : Int) ≤ (2 : Int) ∧ (2 : Int) < (4 : Int),
    fun _ => (0 : Int) ≤ (2 : Int) ∧ (2 : Int) < (4 : Int),
    fun _ => (0 : Int) ≤ (2 : Int) ∧ (2 : Int) < (4 : Int),
    fun _ => (0 : Int) ≤ (2 : Int) ∧ (2 : Int) < (4 : Int),
    fun _ => decide ((↑(limb a (2 : Nat)) : Int) < (↑(limb b (2 : Nat)) : Int)) = false,
    fun _ => decide (IntKind.wrap IntKind.u64 ((↑(limb a (2 : Nat)) : Int) - (↑(limb b (2 : Nat)) : Int)) < (↑c : Int)) = true,
    fun _ => (0 : Int) ≤ (2 : Int) ∧ (2 : Int) < (4 : Int),
    fun _ => (2 : Nat) + (1 : Nat) ≤ (4 : Nat)] (It.rnd [(0 : Nat), (0 : Nat), (1 : Nat), (0 : Nat), (1 : Nat), (1 : Nat), (1 : Nat)] (M + (1 : Nat)) :: kt) (St.mk [((7 : Nat), SV.v (Value.int IntKind.i64 (3 : Int))), ((6 : Nat), SV.v (Value.int IntKind.u64 (1 : Int))), ((5 : Nat), SV.p (3 : Nat) (0 : Nat)), ((4 : Nat), SV.p (2 : Nat) (0 : Nat)), ((3 : Nat), SV.p (1 : Nat) (0 : Nat)), ((2 : Nat), SV.p (0 : Nat) (0 : Nat))] [HO.cells (ec a) (24 : Nat), HO.cells (ec b) (24 : Nat), HO.cells (ec (0 : Nat)) (24 : Nat), HO.cells [SV.v (Value.int IntKind.u64 (↑o0 : Int)), SV.v (Value.int IntKind.u64 (↑o1 : Int)), SV.v (Value.int IntKind.u64 (IntKind.wrap IntKind.u64 (IntKind.wrap IntKind.u64 ((↑(limb a (2 : Nat)) : Int) - (↑(limb b (2 : Nat)) : Int)) - (↑c : Int)))), SV.v (Value.int IntKind.u64 (↑o3 : Int))] (24 : Nat)]),
  Leaf2.mk [decide ((↑(limb a (2 : Nat)) : Int) < (↑(limb b (2 : Nat)) : Int)) = false, decide (IntKind.wrap IntKind.u64 ((↑(limb a (2 : Nat)) : Int) - (↑(limb b (2 : Nat)) : Int)) < (↑c : Int)) = false] [fun _ => true = true,
    fun _ => (0 : Int) ≤ (2 : Int) ∧ (2 : Int) < (4 : Int),
    fun _ => (0 : Int) ≤ (2 : Int) ∧ (2 : Int) < (4 : Int),
    fun _ => (0 : Int) ≤ (2 : Int) ∧ (2 : Int) < (4 : Int),
    fun _ => (0 : Int) ≤ (2 : Int) ∧ (2 : Int) < (4 : Int),
    fun _ => decide ((↑(limb a (2 : Nat)) : Int) < (↑(limb b (2 : Nat)) : Int)) = false,
    fun _ => decide (IntKind.wrap IntKind.u64 ((↑(limb a (2 : Nat)) : Int) - (↑(limb b (2 : Nat)) : Int)) < (↑c : Int)) = false,
    fun _ => (0 : Int) ≤ (2 : Int) ∧ (2 : Int) < (4 : Int),
    fun _ => (2 : Nat) + (1 : Nat) ≤ (4 : Nat)] (It.rnd [(0 : Nat), (0 : Nat), (1 : Nat), (0 : Nat), (1 : Nat), (1 : Nat), (1 : Nat)] (M + (1 : Nat)) :: kt) (St.mk [((7 : Nat), SV.v (Value.int IntKind.i64 (3 : Int))), ((6 : Nat), SV.v (Value.int IntKind.u64 (0 : Int))), ((5 : Nat), SV.p (3 : Nat) (0 : Nat)), ((4 : Nat), SV.p (2 : Nat) (0 : Nat)), ((3 : Nat), SV.p (1 : Nat) (0 : Nat)), ((2 : Nat), SV.p (0 : Nat) (0 : Nat))] [HO.cells (ec a) (24 : Nat), HO.cells (ec b) (24 : Nat), HO.cells (ec (0 : Nat)) (24 : Nat), HO.cells [SV.v (Value.int IntKind.u64 (↑o0 : Int)), SV.v (Value.int IntKind.u64 (↑o1 : Int)), SV.v (Value.int IntKind.u64 (IntKind.wrap IntKind.u64 (IntKind.wrap IntKind.u64 ((↑(limb a (2 : Nat)) : Int) - (↑(limb b (2 : Nat)) : Int)) - (↑c : Int)))), SV.v (Value.int IntKind.u64 (↑o3 : Int))] (24 : Nat)])]
  := by kernel_rfl

theorem minusRow3 (a b c o0 o1 o2 o3 M : Nat) (kt : List It) : ((xgo Try.prog X (bodyOf Try.f38) 41 CI [] 50 [Dec.t] (Tree.br [Dec.t] Tree.nil [] (Tree.br [] Tree.nil [] Tree.nil)) (.at qN :: .rnd qN (M+1) :: kt) (stN a b 3 c o0 o1 o2 o3) [] []).map (trims [7, 6, 5, 4, 3, 2])) =
  some [Leaf2.mk [decide ((↑(limb a (3 : Nat)) : Int) < (↑(limb b (3 : Nat)) : Int)) = true] [fun _ => true = true,
    fun _ => (0 : Int) ≤ (3 : Int) ∧ (3 : Int) < (4 : Int),
    fun _ => (0 : Int) ≤ (3 : Int) ∧ (3 : Int) < (4 : Int),
    fun _ => (0 : Int) ≤ (3 : Int) ∧ (3 : Int) < (4 : Int),
    fun _ => (0 : Int) ≤ (3 : Int) ∧ (3 : Int) < (4 : Int),
    fun _ => decide ((↑(limb a (3 : Nat)) : Int) < (↑(limb b (3 : Nat)) : Int)) = true,
    fun _ => true = true,
    fun _ => (0 : Int) ≤ (3 : Int) ∧ (3 : Int) < (4 : Int),
    fun _ => (3 : Nat) + (1 : Nat) ≤ (4 : Nat)] (It.rnd [(0 : Nat), (0 : Nat), (1 : Nat), (0 : Nat), (1 : Nat), (1 : Nat), (1 : Nat)] (M + (1 : Nat)) :: kt) (St.mk [((7 : Nat), SV.v (Value.int IntKind.i64 (4 : Int))), ((6 : Nat), SV.v (Value.int IntKind.u64 (1 : Int))), ((5 : Nat), SV.p (3 : Nat) (0 : Nat)), ((4 : Nat), SV.p (2 : Nat) (0 : Nat)), ((3 : Nat), SV.p (1 : Nat) (0 : Nat)), ((2 : Nat), SV.p (0 : Nat) (0 : Nat))] [HO.cells (ec a) (24 : Nat), HO.cells (ec b) (24 : Nat), HO.cells (ec (0 : Nat)) (24 : Nat), HO.cells [SV.v (Value.int IntKind.u64 (↑o0 : Int)), SV.v (Value.int IntKind.u64 (↑o1 : Int)), SV.v (Value.int IntKind.u64 (↑o2 : Int)), SV.v (Value.int IntKind.u64 (IntKind.wrap IntKind.u64 (IntKind.wrap IntKind.u64 ((↑(limb a (3 : Nat)) : Int) - (↑(limb b (3 : Nat)) : Int)) - (↑c : Int))))] (24 : Nat)]),
  Leaf2.mk [decide ((↑(limb a (3 : Nat)) : Int) < (↑(limb b (3 : Nat)) : Int)) = false, decide (IntKind.wrap IntKind.u64 ((↑(limb a (3 : Nat)) : Int) - (↑(limb b (3 : Nat)) : Int)) < (↑c : Int)) = true] [fun _ => true = true,
    fun _ => (0 : Int) ≤ (3 : Int) ∧ (3 : Int) < (4 : Int),
    fun _ => (0 : Int) ≤ (3 : Int) ∧ (3 : Int) < (4 : Int),
    fun _ => (0 : Int) ≤ (3 : Int) ∧ (3 : Int) < (4 : Int),
    fun _ => (0 : Int) ≤ (3 : Int) ∧ (3 : Int) < (4 : Int),
    fun _ => decide ((↑(limb a (3 : Nat)) : Int) < (↑(limb b (3 : Nat)) : Int)) = false,
    fun _ => decide (IntKind.wrap IntKind.u64 ((↑(limb a (3 : Nat)) : Int) - (↑(limb b (3 : Nat)) : Int)) < (↑c : Int)) = true,
    fun _ => (0 : Int) ≤ (3 : Int) ∧ (3 : Int) < (4 : Int),
    fun _ => (3 : Nat) + (1 : Nat) ≤ (4 : Nat)] (It.rnd [(0 : Nat), (0 : Nat), (1 : Nat), (0 : Nat), (1 : Nat), (1 : Nat), (1 : Nat)] (M + (1 : Nat)) :: kt) (St.mk [((7 : Nat), SV.v (Value.int IntKind.i64 (4 : Int))), ((6 : Nat), SV.v (Value.int IntKind.u64 (1 : Int))), ((5 : Nat), SV.p (3 : Nat) (0 : Nat)), ((4 : Nat), SV.p (2 : Nat) (0 : Nat)), ((3 : Nat), SV.p (1 : Nat) (0 : Nat)), ((2 : Nat), SV.p (0 : Nat) (0 : Nat))] [HO.cells (ec a) (24 : Nat), HO.cells (ec b) (24 : Nat), HO.cells (ec (0 : Nat)) (24 : Nat), HO.cells [SV.v (Value.int IntKind.u64 (↑o0 : Int)), SV.v (Value.int IntKind.u64 (↑o1 : Int)), SV.v (Value.int IntKind.u64 (↑o2 : Int)), SV.v (Value.int IntKind.u64 (IntKind.wrap IntKind.u64 (IntKind.wrap IntKind.u64 ((↑(limb a (3 : Nat)) : Int) - (↑(limb b (3 : Nat)) : Int)) - (↑c : Int))))] (24 : Nat)]),
  Leaf2.mk [decide ((↑(limb a (3 : Nat)) : Int) < (↑(limb b (3 : Nat)) : Int)) = false, decide (IntKind.wrap IntKind.u64 ((↑(limb a (3 : Nat)) : Int) - (↑(limb b (3 : Nat)) : Int)) < (↑c : Int)) = false] [fun _ => true = true,
    fun _ => (0 : Int) ≤ (3 : Int) ∧ (3 : Int) < (4 : Int),
    fun _ => (0 : Int) ≤ (3 : Int) ∧ (3 : Int) < (4 : Int),
    fun _ => (0 : Int) ≤ (3 : Int) ∧ (3 : Int) < (4 : Int),
    fun _ => (0 : Int) ≤ (3 : Int) ∧ (3 : Int) < (4 : Int),
    fun _ => decide ((↑(limb a (3 : Nat)) : Int) < (↑(limb b (3 : Nat)) : Int)) = false,
    fun _ => decide (IntKind.wrap IntKind.u64 ((↑(limb a (3 : Nat)) : Int) - (↑(limb b (3 : Nat)) : Int)) < (↑c : Int)) = false,
    fun _ => (0 : Int) ≤ (3 : Int) ∧ (3 : Int) < (4 : Int),
    fun _ => (3 : Nat) + (1 : Nat) ≤ (4 : Nat)] (It.rnd [(0 : Nat), (0 : Nat), (1 : Nat), (0 : Nat), (1 : Nat), (1 : Nat), (1 : Nat)] (M + (1 : Nat)) :: kt) (St.mk [((7 : Nat), SV.v (Value.int IntKind.i64 (4 : Int))), ((6 : Nat), SV.v (Value.int IntKind.u64 (0 : Int))), ((5 : Nat), SV.p (3 : Nat) (0 : Nat)), ((4 : Nat), SV.p (2 : Nat) (0 : Nat)), ((3 : Nat), SV.p (1 : Nat) (0 : Nat)), ((2 : Nat), SV.p (0 : Nat) (0 : Nat))] [HO.cells (ec a) (24 : Nat), HO.cells (ec b) (24 : Nat), HO.cells (ec (0 : Nat)) (24 : Nat), HO.cells [SV.v (Value.int IntKind.u64 (↑o0 : Int)), SV.v (Value.int IntKind.u64 (↑o1 : Int)), SV.v (Value.int IntKind.u64 (↑o2 : Int)), SV.v (Value.int IntKind.u64 (IntKind.wrap IntKind.u64 (IntKind.wrap IntKind.u64 ((↑(limb a (3 : Nat)) : Int) - (↑(limb b (3 : Nat)) : Int)) - (↑c : Int))))] (24 : Nat)])]
  := by kernel_rfl

theorem minusEnd (a b c o0 o1 o2 o3 : Nat) : (((xgo Try.prog X (bodyOf Try.f38) 41 CI [] 50 [Dec.f] (Tree.nil) [.at qN, .rnd qN 0, .blk 0, .at [1,1,1,1]] (stN a b 4 c o0 o1 o2 o3) [] []).bind (ends Try.prog Try.f38.results.toList)).bind plainE) =
  some [EndP.mk [] [fun _ => false = false,
    fun _ => (0 : Nat) + (4 : Nat) ≤ (4 : Nat)] (Res.v (Value.agg (Array.mk [Value.int IntKind.u64 (↑o0 : Int), Value.int IntKind.u64 (↑o1 : Int), Value.int IntKind.u64 (↑o2 : Int), Value.int IntKind.u64 (↑o3 : Int)])))]
  := by kernel_rfl

theorem shl0 (x : Nat) : IntKind.wrap .u64 (↑(Int.toNat (IntKind.wrap .u64 ((x : Int) * 2) % 18446744073709551616) ||| (0 : Nat)) : Int) = (((2 * x + 0) % 18446744073709551616 : Nat) : Int) := by
  rw [wrap_u64, wrap_u64, Nat.or_zero]
  omega
theorem twice_ok (a : Nat) (ha : a < top) (w : World) : Calls Try.prog 36 [el a].toArray w (fun E w' => ∃ v, E = .returned v ∧ Res.ok w w' (.v (.tuple #[el (2 * a), .bool (decide (top ≤ 2 * a))])) v ∧ Below w.heap.size w w') := by
  refine con_end (calls_plain hm Try.func36 (by kernel_rfl) rfl rfl 50 _ _ (run36 a) ⟨fun _ => ⟨?_, ?_⟩, trivial⟩)
  · simp only [hold_cons, hold_nil, and_true]
    repeat' apply And.intro
    all_goals (intro _ _; first | exact True.intro | rfl | omega)
  · obtain ⟨f0, g0⟩ := fd63 (limb a 0) (limb_lt a 0)
    obtain ⟨f1, g1⟩ := fd63 (limb a 1) (limb_lt a 1)
    obtain ⟨f2, g2⟩ := fd63 (limb a 2) (limb_lt a 2)
    obtain ⟨f3, g3⟩ := fd63 (limb a 3) (limb_lt a 3)
    rw [shl0 (limb a 0), shl1 (limb a 1) _ g0 _ f0, shl1 (limb a 2) _ g1 _ f1, shl1 (limb a 3) _ g2 _ f2, f3]
    have h0 := limb_lt a 0
    have h1 := limb_lt a 1
    have h2 := limb_lt a 2
    have h3 := limb_lt a 3
    have hs := nv_self a ha
    generalize limb a 0 = a0 at *
    generalize limb a 1 = a1 at *
    generalize limb a 2 = a2 at *
    generalize limb a 3 = a3 at *
    have h : el (2 * a) = el (nv ((2 * a0 + 0) % 18446744073709551616) ((2 * a1 + a0 / 9223372036854775808) % 18446744073709551616) ((2 * a2 + a1 / 9223372036854775808) % 18446744073709551616) ((2 * a3 + a2 / 9223372036854775808) % 18446744073709551616)) := by
      rw [← el_add_top (nv _ _ _ _) (a3 / 9223372036854775808)]
      congr 1
      subst hs
      simp only [nv, top]
      omega
    rw [h, el_nv (Nat.mod_lt _ (by omega)) (Nat.mod_lt _ (by omega)) (Nat.mod_lt _ (by omega)) (Nat.mod_lt _ (by omega))]
    refine congrArg (fun x => Res.v (Value.tuple #[_, Value.bool x])) ?_
    rw [Bool.eq_iff_iff, decide_eq_true_iff]
    subst hs
    simp only [nv, top] at *
    simp
    omega
theorem below_ok (a b : Nat) (ha : a < top) (hb : b < top) (w : World) : Calls Try.prog 37 [el a, el b].toArray w (fun E w' => ∃ v, E = .returned v ∧ Res.ok w w' (.v (.bool (decide (a < b)))) v ∧ Below w.heap.size w w') := by
  have a0 := limb_lt a 0
  have b0 := limb_lt b 0
  have a1 := limb_lt a 1
  have b1 := limb_lt b 1
  have a2 := limb_lt a 2
  have b2 := limb_lt b 2
  have sa := nv_self a ha
  have sb := nv_self b hb
  refine con_end (calls_plain hm Try.func37 (by kernel_rfl) rfl rfl 50 _ _ (run37 a b) ⟨fun has => ⟨?_, ?_⟩, ⟨fun has => ⟨?_, ?_⟩, ⟨fun has => ⟨?_, ?_⟩, ⟨fun has => ⟨?_, ?_⟩, ⟨fun has => ⟨?_, ?_⟩, trivial⟩⟩⟩⟩⟩)
  all_goals simp only [List.mem_cons, List.not_mem_nil, or_false, forall_eq_or_imp, forall_eq, Bool.not_eq_true', Bool.not_eq_false', beq_iff_eq, beq_eq_false_iff_ne, ne_eq, Int.ofNat_inj] at has
  all_goals generalize limb a 0 = x0 at *
  all_goals generalize limb a 1 = x1 at *
  all_goals generalize limb a 2 = x2 at *
  all_goals generalize limb a 3 = x3 at *
  all_goals generalize limb b 0 = y0 at *
  all_goals generalize limb b 1 = y1 at *
  all_goals generalize limb b 2 = y2 at *
  all_goals generalize limb b 3 = y3 at *
  all_goals first
    | (simp only [hold_cons, hold_nil, and_true, Bool.not_eq_true', Bool.not_eq_false', beq_iff_eq, beq_eq_false_iff_ne, ne_eq, Int.ofNat_inj]
       repeat' apply And.intro
       all_goals (intro _ _; first | exact True.intro | omega))
    | (refine congrArg (fun x => Res.v (Value.bool x)) ?_
       subst sa
       subst sb
       first
         | (rw [Bool.eq_iff_iff, decide_eq_true_iff, decide_eq_true_iff]; simp only [nv]; omega)
         | (rw [eq_comm, decide_eq_false_iff_not]; simp only [nv]; omega))
theorem minus_row0 {w : World} {fin : Exit → Act → World → Prop} (hfin : ∀ c (a : Act) (d : Option Tmp) (v : Value) (w : World), fin (.panic c) (a.put d v) w → fin (.panic c) a w)
    (a b c o0 o1 o2 o3 M : Nat) (kt : List It) (hc : c ≤ 1) (next : Ok Try.prog (bodyOf Try.f38) 41 (F0 w) w fin (.rnd qN (M + 1) :: kt) (stN a b 1 (sbHi (limb a 0) (limb b 0) c) (sbLo (limb a 0) (limb b 0) c) o1 o2 o3)) :
    Ok Try.prog (bodyOf Try.f38) 41 (F0 w) w fin (.at qN :: .rnd qN (M + 1) :: kt) (stN a b 0 c o0 o1 o2 o3) := by
  have ha := limb_lt a 0
  have hb := limb_lt b 0
  have e1 : IntKind.wrap .u64 (IntKind.wrap .u64 (((limb a 0 : Nat) : Int) - ((limb b 0 : Nat) : Int)) - (c : Int)) = ((sbLo (limb a 0) (limb b 0) c : Nat) : Int) := by
    rw [wrap_u64, wrap_u64, sbLo_eq]; omega
  have key : ∀ c' : Int, c' = ((sbHi (limb a 0) (limb b 0) c : Nat) : Int) → Ok Try.prog (bodyOf Try.f38) 41 (F0 w) w fin (.rnd qN (M + 1) :: kt) ⟨[(7, .v (.int .i64 1)), (6, .v (.int .u64 c')), (5, .p 3 0), (4, .p 2 0), (3, .p 1 0), (2, .p 0 0)], (stN a b 1 c (sbLo (limb a 0) (limb b 0) c) o1 o2 o3).heap⟩ := by
    intro c' hc'
    subst hc'
    exact next
  refine xgo_trim hm (F0.mono w) hfin 50 _ _ _ _ _ _ (minusRow0 a b c o0 o1 o2 o3 M kt) (paidCons (fun has => ⟨?_, ?_⟩) (paidCons (fun has => ⟨?_, ?_⟩) (paidCons (fun has => ⟨?_, ?_⟩) paidNil)))
  all_goals simp only [List.mem_cons, List.not_mem_nil, or_false, forall_eq_or_imp, forall_eq] at has
  · simp only [hold_cons, hold_nil, and_true]
    repeat' apply And.intro
    all_goals (intro _ _; first | exact True.intro | exact has | omega)
  · refine ok_mono ?_ (key 1 ?_)
    · simp only [e1]
      rfl
    · have := of_decide_eq_true has
      rw [sbHi_eq, if_pos (by omega)]
      rfl
  · simp only [hold_cons, hold_nil, and_true]
    repeat' apply And.intro
    all_goals (intro _ _; first | exact True.intro | exact has.1 | exact has.2 | omega)
  · refine ok_mono ?_ (key 1 ?_)
    · simp only [e1]
      rfl
    · have h1 := of_decide_eq_false has.1
      have h2 := of_decide_eq_true has.2
      rw [wrap_u64] at h2
      rw [sbHi_eq, if_pos (by omega)]
      rfl
  · simp only [hold_cons, hold_nil, and_true]
    repeat' apply And.intro
    all_goals (intro _ _; first | exact True.intro | exact has.1 | exact has.2 | omega)
  · refine ok_mono ?_ (key 0 ?_)
    · simp only [e1]
      rfl
    · have h1 := of_decide_eq_false has.1
      have h2 := of_decide_eq_false has.2
      rw [wrap_u64] at h2
      rw [sbHi_eq, if_neg (by omega)]
      rfl
theorem minus_row1 {w : World} {fin : Exit → Act → World → Prop} (hfin : ∀ c (a : Act) (d : Option Tmp) (v : Value) (w : World), fin (.panic c) (a.put d v) w → fin (.panic c) a w)
    (a b c o0 o1 o2 o3 M : Nat) (kt : List It) (hc : c ≤ 1) (next : Ok Try.prog (bodyOf Try.f38) 41 (F0 w) w fin (.rnd qN (M + 1) :: kt) (stN a b 2 (sbHi (limb a 1) (limb b 1) c) o0 (sbLo (limb a 1) (limb b 1) c) o2 o3)) :
    Ok Try.prog (bodyOf Try.f38) 41 (F0 w) w fin (.at qN :: .rnd qN (M + 1) :: kt) (stN a b 1 c o0 o1 o2 o3) := by
  have ha := limb_lt a 1
  have hb := limb_lt b 1
  have e1 : IntKind.wrap .u64 (IntKind.wrap .u64 (((limb a 1 : Nat) : Int) - ((limb b 1 : Nat) : Int)) - (c : Int)) = ((sbLo (limb a 1) (limb b 1) c : Nat) : Int) := by
    rw [wrap_u64, wrap_u64, sbLo_eq]; omega
  have key : ∀ c' : Int, c' = ((sbHi (limb a 1) (limb b 1) c : Nat) : Int) → Ok Try.prog (bodyOf Try.f38) 41 (F0 w) w fin (.rnd qN (M + 1) :: kt) ⟨[(7, .v (.int .i64 2)), (6, .v (.int .u64 c')), (5, .p 3 0), (4, .p 2 0), (3, .p 1 0), (2, .p 0 0)], (stN a b 2 c o0 (sbLo (limb a 1) (limb b 1) c) o2 o3).heap⟩ := by
    intro c' hc'
    subst hc'
    exact next
  refine xgo_trim hm (F0.mono w) hfin 50 _ _ _ _ _ _ (minusRow1 a b c o0 o1 o2 o3 M kt) (paidCons (fun has => ⟨?_, ?_⟩) (paidCons (fun has => ⟨?_, ?_⟩) (paidCons (fun has => ⟨?_, ?_⟩) paidNil)))
  all_goals simp only [List.mem_cons, List.not_mem_nil, or_false, forall_eq_or_imp, forall_eq] at has
  · simp only [hold_cons, hold_nil, and_true]
    repeat' apply And.intro
    all_goals (intro _ _; first | exact True.intro | exact has | omega)
  · refine ok_mono ?_ (key 1 ?_)
    · simp only [e1]
      rfl
    · have := of_decide_eq_true has
      rw [sbHi_eq, if_pos (by omega)]
      rfl
  · simp only [hold_cons, hold_nil, and_true]
    repeat' apply And.intro
    all_goals (intro _ _; first | exact True.intro | exact has.1 | exact has.2 | omega)
  · refine ok_mono ?_ (key 1 ?_)
    · simp only [e1]
      rfl
    · have h1 := of_decide_eq_false has.1
      have h2 := of_decide_eq_true has.2
      rw [wrap_u64] at h2
      rw [sbHi_eq, if_pos (by omega)]
      rfl
  · simp only [hold_cons, hold_nil, and_true]
    repeat' apply And.intro
    all_goals (intro _ _; first | exact True.intro | exact has.1 | exact has.2 | omega)
  · refine ok_mono ?_ (key 0 ?_)
    · simp only [e1]
      rfl
    · have h1 := of_decide_eq_false has.1
      have h2 := of_decide_eq_false has.2
      rw [wrap_u64] at h2
      rw [sbHi_eq, if_neg (by omega)]
      rfl
theorem minus_row2 {w : World} {fin : Exit → Act → World → Prop} (hfin : ∀ c (a : Act) (d : Option Tmp) (v : Value) (w : World), fin (.panic c) (a.put d v) w → fin (.panic c) a w)
    (a b c o0 o1 o2 o3 M : Nat) (kt : List It) (hc : c ≤ 1) (next : Ok Try.prog (bodyOf Try.f38) 41 (F0 w) w fin (.rnd qN (M + 1) :: kt) (stN a b 3 (sbHi (limb a 2) (limb b 2) c) o0 o1 (sbLo (limb a 2) (limb b 2) c) o3)) :
    Ok Try.prog (bodyOf Try.f38) 41 (F0 w) w fin (.at qN :: .rnd qN (M + 1) :: kt) (stN a b 2 c o0 o1 o2 o3) := by
  have ha := limb_lt a 2
  have hb := limb_lt b 2
  have e1 : IntKind.wrap .u64 (IntKind.wrap .u64 (((limb a 2 : Nat) : Int) - ((limb b 2 : Nat) : Int)) - (c : Int)) = ((sbLo (limb a 2) (limb b 2) c : Nat) : Int) := by
    rw [wrap_u64, wrap_u64, sbLo_eq]; omega
  have key : ∀ c' : Int, c' = ((sbHi (limb a 2) (limb b 2) c : Nat) : Int) → Ok Try.prog (bodyOf Try.f38) 41 (F0 w) w fin (.rnd qN (M + 1) :: kt) ⟨[(7, .v (.int .i64 3)), (6, .v (.int .u64 c')), (5, .p 3 0), (4, .p 2 0), (3, .p 1 0), (2, .p 0 0)], (stN a b 3 c o0 o1 (sbLo (limb a 2) (limb b 2) c) o3).heap⟩ := by
    intro c' hc'
    subst hc'
    exact next
  refine xgo_trim hm (F0.mono w) hfin 50 _ _ _ _ _ _ (minusRow2 a b c o0 o1 o2 o3 M kt) (paidCons (fun has => ⟨?_, ?_⟩) (paidCons (fun has => ⟨?_, ?_⟩) (paidCons (fun has => ⟨?_, ?_⟩) paidNil)))
  all_goals simp only [List.mem_cons, List.not_mem_nil, or_false, forall_eq_or_imp, forall_eq] at has
  · simp only [hold_cons, hold_nil, and_true]
    repeat' apply And.intro
    all_goals (intro _ _; first | exact True.intro | exact has | omega)
  · refine ok_mono ?_ (key 1 ?_)
    · simp only [e1]
      rfl
    · have := of_decide_eq_true has
      rw [sbHi_eq, if_pos (by omega)]
      rfl
  · simp only [hold_cons, hold_nil, and_true]
    repeat' apply And.intro
    all_goals (intro _ _; first | exact True.intro | exact has.1 | exact has.2 | omega)
  · refine ok_mono ?_ (key 1 ?_)
    · simp only [e1]
      rfl
    · have h1 := of_decide_eq_false has.1
      have h2 := of_decide_eq_true has.2
      rw [wrap_u64] at h2
      rw [sbHi_eq, if_pos (by omega)]
      rfl
  · simp only [hold_cons, hold_nil, and_true]
    repeat' apply And.intro
    all_goals (intro _ _; first | exact True.intro | exact has.1 | exact has.2 | omega)
  · refine ok_mono ?_ (key 0 ?_)
    · simp only [e1]
      rfl
    · have h1 := of_decide_eq_false has.1
      have h2 := of_decide_eq_false has.2
      rw [wrap_u64] at h2
      rw [sbHi_eq, if_neg (by omega)]
      rfl
theorem minus_row3 {w : World} {fin : Exit → Act → World → Prop} (hfin : ∀ c (a : Act) (d : Option Tmp) (v : Value) (w : World), fin (.panic c) (a.put d v) w → fin (.panic c) a w)
    (a b c o0 o1 o2 o3 M : Nat) (kt : List It) (hc : c ≤ 1) (next : Ok Try.prog (bodyOf Try.f38) 41 (F0 w) w fin (.rnd qN (M + 1) :: kt) (stN a b 4 (sbHi (limb a 3) (limb b 3) c) o0 o1 o2 (sbLo (limb a 3) (limb b 3) c))) :
    Ok Try.prog (bodyOf Try.f38) 41 (F0 w) w fin (.at qN :: .rnd qN (M + 1) :: kt) (stN a b 3 c o0 o1 o2 o3) := by
  have ha := limb_lt a 3
  have hb := limb_lt b 3
  have e1 : IntKind.wrap .u64 (IntKind.wrap .u64 (((limb a 3 : Nat) : Int) - ((limb b 3 : Nat) : Int)) - (c : Int)) = ((sbLo (limb a 3) (limb b 3) c : Nat) : Int) := by
    rw [wrap_u64, wrap_u64, sbLo_eq]; omega
  have key : ∀ c' : Int, c' = ((sbHi (limb a 3) (limb b 3) c : Nat) : Int) → Ok Try.prog (bodyOf Try.f38) 41 (F0 w) w fin (.rnd qN (M + 1) :: kt) ⟨[(7, .v (.int .i64 4)), (6, .v (.int .u64 c')), (5, .p 3 0), (4, .p 2 0), (3, .p 1 0), (2, .p 0 0)], (stN a b 4 c o0 o1 o2 (sbLo (limb a 3) (limb b 3) c)).heap⟩ := by
    intro c' hc'
    subst hc'
    exact next
  refine xgo_trim hm (F0.mono w) hfin 50 _ _ _ _ _ _ (minusRow3 a b c o0 o1 o2 o3 M kt) (paidCons (fun has => ⟨?_, ?_⟩) (paidCons (fun has => ⟨?_, ?_⟩) (paidCons (fun has => ⟨?_, ?_⟩) paidNil)))
  all_goals simp only [List.mem_cons, List.not_mem_nil, or_false, forall_eq_or_imp, forall_eq] at has
  · simp only [hold_cons, hold_nil, and_true]
    repeat' apply And.intro
    all_goals (intro _ _; first | exact True.intro | exact has | omega)
  · refine ok_mono ?_ (key 1 ?_)
    · simp only [e1]
      rfl
    · have := of_decide_eq_true has
      rw [sbHi_eq, if_pos (by omega)]
      rfl
  · simp only [hold_cons, hold_nil, and_true]
    repeat' apply And.intro
    all_goals (intro _ _; first | exact True.intro | exact has.1 | exact has.2 | omega)
  · refine ok_mono ?_ (key 1 ?_)
    · simp only [e1]
      rfl
    · have h1 := of_decide_eq_false has.1
      have h2 := of_decide_eq_true has.2
      rw [wrap_u64] at h2
      rw [sbHi_eq, if_pos (by omega)]
      rfl
  · simp only [hold_cons, hold_nil, and_true]
    repeat' apply And.intro
    all_goals (intro _ _; first | exact True.intro | exact has.1 | exact has.2 | omega)
  · refine ok_mono ?_ (key 0 ?_)
    · simp only [e1]
      rfl
    · have h1 := of_decide_eq_false has.1
      have h2 := of_decide_eq_false has.2
      rw [wrap_u64] at h2
      rw [sbHi_eq, if_neg (by omega)]
      rfl
theorem minus_ok (a b : Nat) (ha : a < top) (hb : b < top) (w : World) : Calls Try.prog 38 [el a, el b].toArray w (fun E w' => ∃ v, E = .returned v ∧ Res.ok w w' (.v (el (a + top - b))) v ∧ Below w.heap.size w w') := by
  refine con_end (calls_of_ok (B := bodyOf Try.f38) (n := 41) Try.func38 (by kernel_rfl) rfl rfl (F := F0 w) (fun _ _ h => h) ?_)
  have hF := F0.mono w
  refine xgo_trim hm hF finB 50 _ _ _ _ _ _ (minusStart a b) (paidCons (fun _ => ⟨?_, ?_⟩) paidNil)
  · simp only [hold_cons, hold_nil, and_true]
    exact fun _ _ => by omega
  · have q0 := sb_eq (limb a 0) (limb b 0) 0 (limb_lt a 0) (limb_lt b 0) (by omega)
    have q1 := sb_eq (limb a 1) (limb b 1) (sbHi (limb a 0) (limb b 0) 0) (limb_lt a 1) (limb_lt b 1) q0.2.2
    have q2 := sb_eq (limb a 2) (limb b 2) (sbHi (limb a 1) (limb b 1) (sbHi (limb a 0) (limb b 0) 0)) (limb_lt a 2) (limb_lt b 2) q1.2.2
    have q3 := sb_eq (limb a 3) (limb b 3) (sbHi (limb a 2) (limb b 2) (sbHi (limb a 1) (limb b 1) (sbHi (limb a 0) (limb b 0) 0))) (limb_lt a 3) (limb_lt b 3) q2.2.2
    refine ok_mono (st := stN a b 0 0 0 0 0 0) ?_ (Ok.loop 5 (by kernel_rfl) (Ok.rnd (minus_row0 finB a b 0 0 0 0 0 3 _ (by omega) (Ok.rnd ?_))))
    · simp only [stN, ec_zero]
      rfl
    refine minus_row1 finB a b _ _ _ _ _ 2 _ q0.2.2 (Ok.rnd ?_)
    refine minus_row2 finB a b _ _ _ _ _ 1 _ q1.2.2 (Ok.rnd ?_)
    refine minus_row3 finB a b _ _ _ _ _ 0 _ q2.2.2 (Ok.rnd ?_)
    have this := sub_limbs (limb a 0) (limb a 1) (limb a 2) (limb a 3) (limb b 0) (limb b 1) (limb b 2) (limb b 3) _ _ _ _ _ _ _ _ q0.1 q1.1 q2.1 q3.1
    rw [nv_self a ha, nv_self b hb] at this
    have hlt := nv_lt q0.2.1 q1.2.1 q2.2.1 q3.2.1
    have hc4 := q3.2.2
    have h3 : el (a + top - b) = .agg #[.int .u64 ((sbLo (limb a 0) (limb b 0) 0 : Nat) : Int), .int .u64 ((sbLo (limb a 1) (limb b 1) (sbHi (limb a 0) (limb b 0) 0) : Nat) : Int), .int .u64 ((sbLo (limb a 2) (limb b 2) (sbHi (limb a 1) (limb b 1) (sbHi (limb a 0) (limb b 0) 0)) : Nat) : Int), .int .u64 ((sbLo (limb a 3) (limb b 3) (sbHi (limb a 2) (limb b 2) (sbHi (limb a 1) (limb b 1) (sbHi (limb a 0) (limb b 0) 0))) : Nat) : Int)] := by
      rw [← el_nv q0.2.1 q1.2.1 q2.2.1 q3.2.1]
      generalize sbHi (limb a 3) (limb b 3) (sbHi (limb a 2) (limb b 2) (sbHi (limb a 1) (limb b 1) (sbHi (limb a 0) (limb b 0) 0))) = c4 at *
      have h : c4 = 0 ∨ c4 = 1 := by omega
      generalize nv (sbLo (limb a 0) (limb b 0) 0) (sbLo (limb a 1) (limb b 1) (sbHi (limb a 0) (limb b 0) 0)) (sbLo (limb a 2) (limb b 2) (sbHi (limb a 1) (limb b 1) (sbHi (limb a 0) (limb b 0) 0))) (sbLo (limb a 3) (limb b 3) (sbHi (limb a 2) (limb b 2) (sbHi (limb a 1) (limb b 1) (sbHi (limb a 0) (limb b 0) 0)))) = N at *
      rcases h with h | h
      · subst h
        rw [show a + top - b = N + top * 1 by omega, el_add_top]
      · subst h
        rw [show a + top - b = N by omega]
    refine ok_plain hm hF (fun _ h => h) 50 _ _ _ _ (minusEnd a b _ _ _ _ _) ⟨fun _ => ⟨?_, congrArg Res.v h3.symm⟩, trivial⟩
    simp only [hold_cons, hold_nil, and_true]
    exact ⟨fun _ _ => trivial, fun _ _ => by omega⟩
end Go.Proofs.Ytcipmpamhffclaa

namespace Go.Proofs.Ytcipmpamhffclaa
open Go.Sx Go.Pl Go.RowKit
theorem rvs1 {M : Mem} {x : Value} {vs : List Value} (h : RVs M [.v x] vs) : vs = [x] := by
  match vs, h with
  | [a], ⟨h1, _⟩ => rw [h1]
theorem gRMul_ok (rvs : List RV) (r : Res) (p : Prop) (vs : List Value) (w : World) (hg : gMul rvs = some (r, p)) (hp : p) (hv : RVs (wmem w) rvs vs) : Calls Try.prog 19 vs.toArray w (fun E w' => ∃ v, E = .returned v ∧ r.ok w w' v ∧ Below w.heap.size w w') := by
  unfold gMul at hg
  split at hg
  · split at hg
    · simp only [Option.some.injEq, Prod.mk.injEq] at hg
      obtain ⟨rfl, rfl⟩ := hg
      obtain ⟨h1, h2, h3, h4⟩ := hp
      rw [rvs2 hv, h1, h2]
      exact rmul_ok _ _ h3 h4 w
    · cases hg
  · cases hg
noncomputable def gTwice : List RV → Option (Res × Prop)
  | [.v x] => match unEl x with
    | some a => some (.v (.tuple #[el (2 * a), .bool (decide (top ≤ 2 * a))]), x = el a ∧ a < top)
    | _ => none
  | _ => none
theorem gTwice_ok (rvs : List RV) (r : Res) (p : Prop) (vs : List Value) (w : World) (hg : gTwice rvs = some (r, p)) (hp : p) (hv : RVs (wmem w) rvs vs) : Calls Try.prog 36 vs.toArray w (fun E w' => ∃ v, E = .returned v ∧ r.ok w w' v ∧ Below w.heap.size w w') := by
  unfold gTwice at hg
  split at hg
  · split at hg
    · simp only [Option.some.injEq, Prod.mk.injEq] at hg
      obtain ⟨rfl, rfl⟩ := hg
      obtain ⟨h1, h3⟩ := hp
      rw [rvs1 hv, h1]
      exact twice_ok _ h3 w
    · cases hg
  · cases hg
theorem gBelow_ok (rvs : List RV) (r : Res) (p : Prop) (vs : List Value) (w : World) (hg : gLess rvs = some (r, p)) (hp : p) (hv : RVs (wmem w) rvs vs) : Calls Try.prog 37 vs.toArray w (fun E w' => ∃ v, E = .returned v ∧ r.ok w w' v ∧ Below w.heap.size w w') := by
  unfold gLess at hg
  split at hg
  · split at hg
    · simp only [Option.some.injEq, Prod.mk.injEq] at hg
      obtain ⟨rfl, rfl⟩ := hg
      obtain ⟨h1, h2, h3, h4⟩ := hp
      rw [rvs2 hv, h1, h2]
      exact below_ok _ _ h3 h4 w
    · cases hg
  · cases hg
noncomputable def gMinus : List RV → Option (Res × Prop)
  | [.v x, .v y] => match unEl x, unEl y with
    | some a, some b => some (.v (el (a + top - b)), x = el a ∧ y = el b ∧ a < top ∧ b < top)
    | _, _ => none
  | _ => none
theorem gMinus_ok (rvs : List RV) (r : Res) (p : Prop) (vs : List Value) (w : World) (hg : gMinus rvs = some (r, p)) (hp : p) (hv : RVs (wmem w) rvs vs) : Calls Try.prog 38 vs.toArray w (fun E w' => ∃ v, E = .returned v ∧ r.ok w w' v ∧ Below w.heap.size w w') := by
  unfold gMinus at hg
  split at hg
  · split at hg
    · simp only [Option.some.injEq, Prod.mk.injEq] at hg
      obtain ⟨rfl, rfl⟩ := hg
      obtain ⟨h1, h2, h3, h4⟩ := hp
      rw [rvs2 hv, h1, h2]
      exact minus_ok _ _ h3 h4 w
    · cases hg
  · cases hg
noncomputable def CJ : Con Try.prog := (((CI.add 19 gMul gRMul_ok).add 36 gTwice gTwice_ok).add 37 gLess gBelow_ok).add 38 gMinus gMinus_ok
end Go.Proofs.Ytcipmpamhffclaa
