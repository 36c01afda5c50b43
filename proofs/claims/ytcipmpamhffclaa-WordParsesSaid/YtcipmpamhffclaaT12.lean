/- The document's last digit of a number: states. -/
import Derived.Test.YtcipmpamhffclaaT11
namespace Go.Proofs.Ytcipmpamhffclaa
open Go.Sx Go.Pl Go.RowKit
def qD : List Nat := [0,0,1,0,1,1,1]
noncomputable def hpD (a o0 o1 o2 o3 : Nat) : List HO := [.cells (ec a) 24, .cells (ec 0) 24, .cells [.v (.int .u64 (o0 : Int)), .v (.int .u64 (o1 : Int)), .v (.int .u64 (o2 : Int)), .v (.int .u64 (o3 : Int))] 24]
noncomputable def stD (a y r : Nat) (i : Int) (o0 o1 o2 o3 : Nat) : St :=
  ⟨[(8, .v (.int .i64 i)), (7, .v (.int .u64 (r : Int))), (6, .p 2 0), (5, .v (.int .i64 0)), (4, .p 1 0), (2, .p 0 0), (1, .v (.int .u64 (y : Int)))], hpD a o0 o1 o2 o3⟩
end Go.Proofs.Ytcipmpamhffclaa

namespace Go.Proofs.Ytcipmpamhffclaa
open Go.Sx Go.Pl Go.RowKit
def qX : List Nat := [0,0,1,0,0,1,0,0,1,0,1,1,1]
theorem rdigR0 (a y r b o0 o1 o2 o3 M : Nat) (j : Int) (kt : List It) : ((xgo Try.prog X (bodyOf Try.f48) 48 TE [] 20 [.t, .as 27 (.v (.int .u64 (b : Int)))] ((.br [] .nil [] .nil)) (.at qX :: .rnd qX (M + 1) :: kt) ⟨[(9, .v (.int .i64 j)), (8, .v (.int .i64 0)), (7, .v (.int .u64 (r : Int))), (6, .p 2 0), (5, .v (.int .i64 0)), (4, .p 1 0), (2, .p 0 0), (1, .v (.int .u64 (y : Int)))], hpD a o0 o1 o2 o3⟩ [] []).map (trims [9, 8, 7, 6, 5, 4, 2, 1])) =
  some [Leaf2.mk [decide ((↑y : Int) ≤ IntKind.wrap IntKind.u64 (IntKind.wrap IntKind.u64 ((↑r : Int) * (2 : Int)) + (↑b : Int))) = true] [fun _ => decide ((0 : Int) ≤ j) = true,
    fun _ => (0 : Int) ≤ (0 : Int) ∧ (0 : Int) < (4 : Int),
    fun _ => ¬IntKind.wrap IntKind.u64 j < (0 : Int),
    fun _ => Value.int IntKind.u64 (IntKind.wrap IntKind.u64 (↑(Int.toNat (Int.fdiv (↑(limb a (0 : Nat)) : Int) ((2 : Int) ^ if Int.toNat (IntKind.wrap IntKind.u64 j) ≤ (64 : Nat) then Int.toNat (IntKind.wrap IntKind.u64 j) else (64 : Nat)) % (18446744073709551616 : Int)) &&& (1 : Nat)) : Int)) = Value.int IntKind.u64 (↑b : Int),
    fun _ => (0 : Int) ≤ (0 : Int) ∧ (0 : Int) < (4 : Int),
    fun _ => ¬(1 : Int) < (0 : Int),
    fun _ => (0 : Int) ≤ (0 : Int) ∧ (0 : Int) < (4 : Int),
    fun _ => (0 : Nat) + (1 : Nat) ≤ (4 : Nat),
    fun _ => decide ((↑y : Int) ≤ IntKind.wrap IntKind.u64 (IntKind.wrap IntKind.u64 ((↑r : Int) * (2 : Int)) + (↑b : Int))) = true,
    fun _ => (0 : Int) ≤ (0 : Int) ∧ (0 : Int) < (4 : Int),
    fun _ => (0 : Int) ≤ (0 : Int) ∧ (0 : Int) < (4 : Int),
    fun _ => (0 : Nat) + (1 : Nat) ≤ (4 : Nat)] (It.rnd [(0 : Nat), (0 : Nat), (1 : Nat), (0 : Nat), (0 : Nat), (1 : Nat), (0 : Nat), (0 : Nat), (1 : Nat), (0 : Nat), (1 : Nat), (1 : Nat), (1 : Nat)] (M + (1 : Nat)) :: kt) (St.mk [((9 : Nat), SV.v (Value.int IntKind.i64 (IntKind.wrap IntKind.i64 (j - (1 : Int))))), ((8 : Nat), SV.v (Value.int IntKind.i64 (0 : Int))), ((7 : Nat), SV.v (Value.int IntKind.u64 (IntKind.wrap IntKind.u64 (IntKind.wrap IntKind.u64 (IntKind.wrap IntKind.u64 ((↑r : Int) * (2 : Int)) + (↑b : Int)) - (↑y : Int))))), ((6 : Nat), SV.p (2 : Nat) (0 : Nat)), ((5 : Nat), SV.v (Value.int IntKind.i64 (0 : Int))), ((4 : Nat), SV.p (1 : Nat) (0 : Nat)), ((2 : Nat), SV.p (0 : Nat) (0 : Nat)), ((1 : Nat), SV.v (Value.int IntKind.u64 (↑y : Int)))] [HO.cells (ec a) (24 : Nat), HO.cells (ec (0 : Nat)) (24 : Nat), HO.cells [SV.v (Value.int IntKind.u64 (IntKind.wrap IntKind.u64 (↑(Int.toNat (IntKind.wrap IntKind.u64 ((↑o0 : Int) * (2 : Int)) % (18446744073709551616 : Int)) ||| (1 : Nat)) : Int))), SV.v (Value.int IntKind.u64 (↑o1 : Int)), SV.v (Value.int IntKind.u64 (↑o2 : Int)), SV.v (Value.int IntKind.u64 (↑o3 : Int))] (24 : Nat)]),
  Leaf2.mk [decide ((↑y : Int) ≤ IntKind.wrap IntKind.u64 (IntKind.wrap IntKind.u64 ((↑r : Int) * (2 : Int)) + (↑b : Int))) = false] [fun _ => decide ((0 : Int) ≤ j) = true,
    fun _ => (0 : Int) ≤ (0 : Int) ∧ (0 : Int) < (4 : Int),
    fun _ => ¬IntKind.wrap IntKind.u64 j < (0 : Int),
    fun _ => Value.int IntKind.u64 (IntKind.wrap IntKind.u64 (↑(Int.toNat (Int.fdiv (↑(limb a (0 : Nat)) : Int) ((2 : Int) ^ if Int.toNat (IntKind.wrap IntKind.u64 j) ≤ (64 : Nat) then Int.toNat (IntKind.wrap IntKind.u64 j) else (64 : Nat)) % (18446744073709551616 : Int)) &&& (1 : Nat)) : Int)) = Value.int IntKind.u64 (↑b : Int),
    fun _ => (0 : Int) ≤ (0 : Int) ∧ (0 : Int) < (4 : Int),
    fun _ => ¬(1 : Int) < (0 : Int),
    fun _ => (0 : Int) ≤ (0 : Int) ∧ (0 : Int) < (4 : Int),
    fun _ => (0 : Nat) + (1 : Nat) ≤ (4 : Nat),
    fun _ => decide ((↑y : Int) ≤ IntKind.wrap IntKind.u64 (IntKind.wrap IntKind.u64 ((↑r : Int) * (2 : Int)) + (↑b : Int))) = false] (It.rnd [(0 : Nat), (0 : Nat), (1 : Nat), (0 : Nat), (0 : Nat), (1 : Nat), (0 : Nat), (0 : Nat), (1 : Nat), (0 : Nat), (1 : Nat), (1 : Nat), (1 : Nat)] (M + (1 : Nat)) :: kt) (St.mk [((9 : Nat), SV.v (Value.int IntKind.i64 (IntKind.wrap IntKind.i64 (j - (1 : Int))))), ((8 : Nat), SV.v (Value.int IntKind.i64 (0 : Int))), ((7 : Nat), SV.v (Value.int IntKind.u64 (IntKind.wrap IntKind.u64 (IntKind.wrap IntKind.u64 ((↑r : Int) * (2 : Int)) + (↑b : Int))))), ((6 : Nat), SV.p (2 : Nat) (0 : Nat)), ((5 : Nat), SV.v (Value.int IntKind.i64 (0 : Int))), ((4 : Nat), SV.p (1 : Nat) (0 : Nat)), ((2 : Nat), SV.p (0 : Nat) (0 : Nat)), ((1 : Nat), SV.v (Value.int IntKind.u64 (↑y : Int)))] [HO.cells (ec a) (24 : Nat), HO.cells (ec (0 : Nat)) (24 : Nat), HO.cells [SV.v (Value.int IntKind.u64 (IntKind.wrap IntKind.u64 ((↑o0 : Int) * (2 : Int)))), SV.v (Value.int IntKind.u64 (↑o1 : Int)), SV.v (Value.int IntKind.u64 (↑o2 : Int)), SV.v (Value.int IntKind.u64 (↑o3 : Int))] (24 : Nat)])]
  := by kernel_rfl

theorem rdigR1 (a y r b o0 o1 o2 o3 M : Nat) (j : Int) (kt : List It) : ((xgo Try.prog X (bodyOf Try.f48) 48 TE [] 20 [.t, .as 27 (.v (.int .u64 (b : Int)))] ((.br [] .nil [] .nil)) (.at qX :: .rnd qX (M + 1) :: kt) ⟨[(9, .v (.int .i64 j)), (8, .v (.int .i64 1)), (7, .v (.int .u64 (r : Int))), (6, .p 2 0), (5, .v (.int .i64 0)), (4, .p 1 0), (2, .p 0 0), (1, .v (.int .u64 (y : Int)))], hpD a o0 o1 o2 o3⟩ [] []).map (trims [9, 8, 7, 6, 5, 4, 2, 1])) =
  some [Leaf2.mk [decide ((↑y : Int) ≤ IntKind.wrap IntKind.u64 (IntKind.wrap IntKind.u64 ((↑r : Int) * (2 : Int)) + (↑b : Int))) = true] [fun _ => decide ((0 : Int) ≤ j) = true,
    fun _ => (0 : Int) ≤ (1 : Int) ∧ (1 : Int) < (4 : Int),
    fun _ => ¬IntKind.wrap IntKind.u64 j < (0 : Int),
    fun _ => Value.int IntKind.u64 (IntKind.wrap IntKind.u64 (↑(Int.toNat (Int.fdiv (↑(limb a (1 : Nat)) : Int) ((2 : Int) ^ if Int.toNat (IntKind.wrap IntKind.u64 j) ≤ (64 : Nat) then Int.toNat (IntKind.wrap IntKind.u64 j) else (64 : Nat)) % (18446744073709551616 : Int)) &&& (1 : Nat)) : Int)) = Value.int IntKind.u64 (↑b : Int),
    fun _ => (0 : Int) ≤ (1 : Int) ∧ (1 : Int) < (4 : Int),
    fun _ => ¬(1 : Int) < (0 : Int),
    fun _ => (0 : Int) ≤ (1 : Int) ∧ (1 : Int) < (4 : Int),
    fun _ => (1 : Nat) + (1 : Nat) ≤ (4 : Nat),
    fun _ => decide ((↑y : Int) ≤ IntKind.wrap IntKind.u64 (IntKind.wrap IntKind.u64 ((↑r : Int) * (2 : Int)) + (↑b : Int))) = true,
    fun _ => (0 : Int) ≤ (1 : Int) ∧ (1 : Int) < (4 : Int),
    fun _ => (0 : Int) ≤ (1 : Int) ∧ (1 : Int) < (4 : Int),
    fun _ => (1 : Nat) + (1 : Nat) ≤ (4 : Nat)] (It.rnd [(0 : Nat), (0 : Nat), (1 : Nat), (0 : Nat), (0 : Nat), (1 : Nat), (0 : Nat), (0 : Nat), (1 : Nat), (0 : Nat), (1 : Nat), (1 : Nat), (1 : Nat)] (M + (1 : Nat)) :: kt) (St.mk [((9 : Nat), SV.v (Value.int IntKind.i64 (IntKind.wrap IntKind.i64 (j - (1 : Int))))), ((8 : Nat), SV.v (Value.int IntKind.i64 (1 : Int))), ((7 : Nat), SV.v (Value.int IntKind.u64 (IntKind.wrap IntKind.u64 (IntKind.wrap IntKind.u64 (IntKind.wrap IntKind.u64 ((↑r : Int) * (2 : Int)) + (↑b : Int)) - (↑y : Int))))), ((6 : Nat), SV.p (2 : Nat) (0 : Nat)), ((5 : Nat), SV.v (Value.int IntKind.i64 (0 : Int))), ((4 : Nat), SV.p (1 : Nat) (0 : Nat)), ((2 : Nat), SV.p (0 : Nat) (0 : Nat)), ((1 : Nat), SV.v (Value.int IntKind.u64 (↑y : Int)))] [HO.cells (ec a) (24 : Nat), HO.cells (ec (0 : Nat)) (24 : Nat), HO.cells [SV.v (Value.int IntKind.u64 (↑o0 : Int)), SV.v (Value.int IntKind.u64 (IntKind.wrap IntKind.u64 (↑(Int.toNat (IntKind.wrap IntKind.u64 ((↑o1 : Int) * (2 : Int)) % (18446744073709551616 : Int)) ||| (1 : Nat)) : Int))), SV.v (Value.int IntKind.u64 (↑o2 : Int)), SV.v (Value.int IntKind.u64 (↑o3 : Int))] (24 : Nat)]),
  Leaf2.mk [decide ((↑y : Int) ≤ IntKind.wrap IntKind.u64 (IntKind.wrap IntKind.u64 ((↑r : Int) * (2 : Int)) + (↑b : Int))) = false] [fun _ => decide ((0 : Int) ≤ j) = true,
    fun _ => (0 : Int) ≤ (1 : Int) ∧ (1 : Int) < (4 : Int),
    fun _ => ¬IntKind.wrap IntKind.u64 j < (0 : Int),
    fun _ => Value.int IntKind.u64 (IntKind.wrap IntKind.u64 (↑(Int.toNat (Int.fdiv (↑(limb a (1 : Nat)) : Int) ((2 : Int) ^ if Int.toNat (IntKind.wrap IntKind.u64 j) ≤ (64 : Nat) then Int.toNat (IntKind.wrap IntKind.u64 j) else (64 : Nat)) % (18446744073709551616 : Int)) &&& (1 : Nat)) : Int)) = Value.int IntKind.u64 (↑b : Int),
    fun _ => (0 : Int) ≤ (1 : Int) ∧ (1 : Int) < (4 : Int),
    fun _ => ¬(1 : Int) < (0 : Int),
    fun _ => (0 : Int) ≤ (1 : Int) ∧ (1 : Int) < (4 : Int),
    fun _ => (1 : Nat) + (1 : Nat) ≤ (4 : Nat),
    fun _ => decide ((↑y : Int) ≤ IntKind.wrap IntKind.u64 (IntKind.wrap IntKind.u64 ((↑r : Int) * (2 : Int)) + (↑b : Int))) = false] (It.rnd [(0 : Nat), (0 : Nat), (1 : Nat), (0 : Nat), (0 : Nat), (1 : Nat), (0 : Nat), (0 : Nat), (1 : Nat), (0 : Nat), (1 : Nat), (1 : Nat), (1 : Nat)] (M + (1 : Nat)) :: kt) (St.mk [((9 : Nat), SV.v (Value.int IntKind.i64 (IntKind.wrap IntKind.i64 (j - (1 : Int))))), ((8 : Nat), SV.v (Value.int IntKind.i64 (1 : Int))), ((7 : Nat), SV.v (Value.int IntKind.u64 (IntKind.wrap IntKind.u64 (IntKind.wrap IntKind.u64 ((↑r : Int) * (2 : Int)) + (↑b : Int))))), ((6 : Nat), SV.p (2 : Nat) (0 : Nat)), ((5 : Nat), SV.v (Value.int IntKind.i64 (0 : Int))), ((4 : Nat), SV.p (1 : Nat) (0 : Nat)), ((2 : Nat), SV.p (0 : Nat) (0 : Nat)), ((1 : Nat), SV.v (Value.int IntKind.u64 (↑y : Int)))] [HO.cells (ec a) (24 : Nat), HO.cells (ec (0 : Nat)) (24 : Nat), HO.cells [SV.v (Value.int IntKind.u64 (↑o0 : Int)), SV.v (Value.int IntKind.u64 (IntKind.wrap IntKind.u64 ((↑o1 : Int) * (2 : Int)))), SV.v (Value.int IntKind.u64 (↑o2 : Int)), SV.v (Value.int IntKind.u64 (↑o3 : Int))] (24 : Nat)])]
  := by kernel_rfl

theorem rdigR2 (a y r b o0 o1 o2 o3 M : Nat) (j : Int) (kt : List It) : ((xgo Try.prog X (bodyOf Try.f48) 48 TE [] 20 [.t, .as 27 (.v (.int .u64 (b : Int)))] ((.br [] .nil [] .nil)) (.at qX :: .rnd qX (M + 1) :: kt) ⟨[(9, .v (.int .i64 j)), (8, .v (.int .i64 2)), (7, .v (.int .u64 (r : Int))), (6, .p 2 0), (5, .v (.int .i64 0)), (4, .p 1 0), (2, .p 0 0), (1, .v (.int .u64 (y : Int)))], hpD a o0 o1 o2 o3⟩ [] []).map (trims [9, 8, 7, 6, 5, 4, 2, 1])) =
  some [Leaf2.mk [decide ((↑y : Int) ≤ IntKind.wrap IntKind.u64 (IntKind.wrap IntKind.u64 ((↑r : Int) * (2 : Int)) + (↑b : Int))) = true] [fun _ => decide ((0 : Int) ≤ j) = true,
    fun _ => (0 : Int) ≤ (2 : Int) ∧ (2 : Int) < (4 : Int),
    fun _ => ¬IntKind.wrap IntKind.u64 j < (0 : Int),
    fun _ => Value.int IntKind.u64 (IntKind.wrap IntKind.u64 (↑(Int.toNat (Int.fdiv (↑(limb a (2 : Nat)) : Int) ((2 : Int) ^ if Int.toNat (IntKind.wrap IntKind.u64 j) ≤ (64 : Nat) then Int.toNat (IntKind.wrap IntKind.u64 j) else (64 : Nat)) % (18446744073709551616 : Int)) &&& (1 : Nat)) : Int)) = Value.int IntKind.u64 (↑b : Int),
    fun _ => (0 : Int) ≤ (2 : Int) ∧ (2 : Int) < (4 : Int),
    fun _ => ¬(1 : Int) < (0 : Int),
    fun _ => (0 : Int) ≤ (2 : Int) ∧ (2 : Int) < (4 : Int),
    fun _ => (2 : Nat) + (1 : Nat) ≤ (4 : Nat),
    fun _ => decide ((↑y : Int) ≤ IntKind.wrap IntKind.u64 (IntKind.wrap IntKind.u64 ((↑r : Int) * (2 : Int)) + (↑b : Int))) = true,
    fun _ => (0 : Int) ≤ (2 : Int) ∧ (2 : Int) < (4 : Int),
    fun _ => (0 : Int) ≤ (2 : Int) ∧ (2 : Int) < (4 : Int),
    fun _ => (2 : Nat) + (1 : Nat) ≤ (4 : Nat)] (It.rnd [(0 : Nat), (0 : Nat), (1 : Nat), (0 : Nat), (0 : Nat), (1 : Nat), (0 : Nat), (0 : Nat), (1 : Nat), (0 : Nat), (1 : Nat), (1 : Nat), (1 : Nat)] (M + (1 : Nat)) :: kt) (St.mk [((9 : Nat), SV.v (Value.int IntKind.i64 (IntKind.wrap IntKind.i64 (j - (1 : Int))))), ((8 : Nat), SV.v (Value.int IntKind.i64 (2 : Int))), ((7 : Nat), SV.v (Value.int IntKind.u64 (IntKind.wrap IntKind.u64 (IntKind.wrap IntKind.u64 (IntKind.wrap IntKind.u64 ((↑r : Int) * (2 : Int)) + (↑b : Int)) - (↑y : Int))))), ((6 : Nat), SV.p (2 : Nat) (0 : Nat)), ((5 : Nat), SV.v (Value.int IntKind.i64 (0 : Int))), ((4 : Nat), SV.p (1 : Nat) (0 : Nat)), ((2 : Nat), SV.p (0 : Nat) (0 : Nat)), ((1 : Nat), SV.v (Value.int IntKind.u64 (↑y : Int)))] [HO.cells (ec a) (24 : Nat), HO.cells (ec (0 : Nat)) (24 : Nat), HO.cells [SV.v (Value.int IntKind.u64 (↑o0 : Int)), SV.v (Value.int IntKind.u64 (↑o1 : Int)), SV.v (Value.int IntKind.u64 (IntKind.wrap IntKind.u64 (↑(Int.toNat (IntKind.wrap IntKind.u64 ((↑o2 : Int) * (2 : Int)) % (18446744073709551616 : Int)) ||| (1 : Nat)) : Int))), SV.v (Value.int IntKind.u64 (↑o3 : Int))] (24 : Nat)]),
  Leaf2.mk [decide ((↑y : Int) ≤ IntKind.wrap IntKind.u64 (IntKind.wrap IntKind.u64 ((↑r : Int) * (2 : Int)) + (↑b : Int))) = false] [fun _ => decide ((0 : Int) ≤ j) = true,
    fun _ => (0 : Int) ≤ (2 : Int) ∧ (2 : Int) < (4 : Int),
    fun _ => ¬IntKind.wrap IntKind.u64 j < (0 : Int),
    fun _ => Value.int IntKind.u64 (IntKind.wrap IntKind.u64 (↑(Int.toNat (Int.fdiv (↑(limb a (2 : Nat)) : Int) ((2 : Int) ^ if Int.toNat (IntKind.wrap IntKind.u64 j) ≤ (64 : Nat) then Int.toNat (IntKind.wrap IntKind.u64 j) else (64 : Nat)) % (18446744073709551616 : Int)) &&& (1 : Nat)) : Int)) = Value.int IntKind.u64 (↑b : Int),
    fun _ => (0 : Int) ≤ (2 : Int) ∧ (2 : Int) < (4 : Int),
    fun _ => ¬(1 : Int) < (0 : Int),
    fun _ => (0 : Int) ≤ (2 : Int) ∧ (2 : Int) < (4 : Int),
    fun _ => (2 : Nat) + (1 : Nat) ≤ (4 : Nat),
    fun _ => decide ((↑y : Int) ≤ IntKind.wrap IntKind.u64 (IntKind.wrap IntKind.u64 ((↑r : Int) * (2 : Int)) + (↑b : Int))) = false] (It.rnd [(0 : Nat), (0 : Nat), (1 : Nat), (0 : Nat), (0 : Nat), (1 : Nat), (0 : Nat), (0 : Nat), (1 : Nat), (0 : Nat), (1 : Nat), (1 : Nat), (1 : Nat)] (M + (1 : Nat)) :: kt) (St.mk [((9 : Nat), SV.v (Value.int IntKind.i64 (IntKind.wrap IntKind.i64 (j - (1 : Int))))), ((8 : Nat), SV.v (Value.int IntKind.i64 (2 : Int))), ((7 : Nat), SV.v (Value.int IntKind.u64 (IntKind.wrap IntKind.u64 (IntKind.wrap IntKind.u64 ((↑r : Int) * (2 : Int)) + (↑b : Int))))), ((6 : Nat), SV.p (2 : Nat) (0 : Nat)), ((5 : Nat), SV.v (Value.int IntKind.i64 (0 : Int))), ((4 : Nat), SV.p (1 : Nat) (0 : Nat)), ((2 : Nat), SV.p (0 : Nat) (0 : Nat)), ((1 : Nat), SV.v (Value.int IntKind.u64 (↑y : Int)))] [HO.cells (ec a) (24 : Nat), HO.cells (ec (0 : Nat)) (24 : Nat), HO.cells [SV.v (Value.int IntKind.u64 (↑o0 : Int)), SV.v (Value.int IntKind.u64 (↑o1 : Int)), SV.v (Value.int IntKind.u64 (IntKind.wrap IntKind.u64 ((↑o2 : Int) * (2 : Int)))), SV.v (Value.int IntKind.u64 (↑o3 : Int))] (24 : Nat)])]
  := by kernel_rfl

theorem rdigR3 (a y r b o0 o1 o2 o3 M : Nat) (j : Int) (kt : List It) : ((xgo Try.prog X (bodyOf Try.f48) 48 TE [] 20 [.t, .as 27 (.v (.int .u64 (b : Int)))] ((.br [] .nil [] .nil)) (.at qX :: .rnd qX (M + 1) :: kt) ⟨[(9, .v (.int .i64 j)), (8, .v (.int .i64 3)), (7, .v (.int .u64 (r : Int))), (6, .p 2 0), (5, .v (.int .i64 0)), (4, .p 1 0), (2, .p 0 0), (1, .v (.int .u64 (y : Int)))], hpD a o0 o1 o2 o3⟩ [] []).map (trims [9, 8, 7, 6, 5, 4, 2, 1])) =
  some [Leaf2.mk [decide ((↑y : Int) ≤ IntKind.wrap IntKind.u64 (IntKind.wrap IntKind.u64 ((↑r : Int) * (2 : Int)) + (↑b : Int))) = true] [fun _ => decide ((0 : Int) ≤ j) = true,
    fun _ => (0 : Int) ≤ (3 : Int) ∧ (3 : Int) < (4 : Int),
    fun _ => ¬IntKind.wrap IntKind.u64 j < (0 : Int),
    fun _ => Value.int IntKind.u64 (IntKind.wrap IntKind.u64 (↑(Int.toNat (Int.fdiv (↑(limb a (3 : Nat)) : Int) ((2 : Int) ^ if Int.toNat (IntKind.wrap IntKind.u64 j) ≤ (64 : Nat) then Int.toNat (IntKind.wrap IntKind.u64 j) else (64 : Nat)) % (18446744073709551616 : Int)) &&& (1 : Nat)) : Int)) = Value.int IntKind.u64 (↑b : Int),
    fun _ => (0 : Int) ≤ (3 : Int) ∧ (3 : Int) < (4 : Int),
    fun _ => ¬(1 : Int) < (0 : Int),
    fun _ => (0 : Int) ≤ (3 : Int) ∧ (3 : Int) < (4 : Int),
    fun _ => (3 : Nat) + (1 : Nat) ≤ (4 : Nat),
    fun _ => decide ((↑y : Int) ≤ IntKind.wrap IntKind.u64 (IntKind.wrap IntKind.u64 ((↑r : Int) * (2 : Int)) + (↑b : Int))) = true,
    fun _ => (0 : Int) ≤ (3 : Int) ∧ (3 : Int) < (4 : Int),
    fun _ => (0 : Int) ≤ (3 : Int) ∧ (3 : Int) < (4 : Int),
    fun _ => (3 : Nat) + (1 : Nat) ≤ (4 : Nat)] (It.rnd [(0 : Nat), (0 : Nat), (1 : Nat), (0 : Nat), (0 : Nat), (1 : Nat), (0 : Nat), (0 : Nat), (1 : Nat), (0 : Nat), (1 : Nat), (1 : Nat), (1 : Nat)] (M + (1 : Nat)) :: kt) (St.mk [((9 : Nat), SV.v (Value.int IntKind.i64 (IntKind.wrap IntKind.i64 (j - (1 : Int))))), ((8 : Nat), SV.v (Value.int IntKind.i64 (3 : Int))), ((7 : Nat), SV.v (Value.int IntKind.u64 (IntKind.wrap IntKind.u64 (IntKind.wrap IntKind.u64 (IntKind.wrap IntKind.u64 ((↑r : Int) * (2 : Int)) + (↑b : Int)) - (↑y : Int))))), ((6 : Nat), SV.p (2 : Nat) (0 : Nat)), ((5 : Nat), SV.v (Value.int IntKind.i64 (0 : Int))), ((4 : Nat), SV.p (1 : Nat) (0 : Nat)), ((2 : Nat), SV.p (0 : Nat) (0 : Nat)), ((1 : Nat), SV.v (Value.int IntKind.u64 (↑y : Int)))] [HO.cells (ec a) (24 : Nat), HO.cells (ec (0 : Nat)) (24 : Nat), HO.cells [SV.v (Value.int IntKind.u64 (↑o0 : Int)), SV.v (Value.int IntKind.u64 (↑o1 : Int)), SV.v (Value.int IntKind.u64 (↑o2 : Int)), SV.v (Value.int IntKind.u64 (IntKind.wrap IntKind.u64 (↑(Int.toNat (IntKind.wrap IntKind.u64 ((↑o3 : Int) * (2 : Int)) % (18446744073709551616 : Int)) ||| (1 : Nat)) : Int)))] (24 : Nat)]),
  Leaf2.mk [decide ((↑y : Int) ≤ IntKind.wrap IntKind.u64 (IntKind.wrap IntKind.u64 ((↑r : Int) * (2 : Int)) + (↑b : Int))) = false] [fun _ => decide ((0 : Int) ≤ j) = true,
    fun _ => (0 : Int) ≤ (3 : Int) ∧ (3 : Int) < (4 : Int),
    fun _ => ¬IntKind.wrap IntKind.u64 j < (0 : Int),
    fun _ => Value.int IntKind.u64 (IntKind.wrap IntKind.u64 (↑(Int.toNat (Int.fdiv (↑(limb a (3 : Nat)) : Int) ((2 : Int) ^ if Int.toNat (IntKind.wrap IntKind.u64 j) ≤ (64 : Nat) then Int.toNat (IntKind.wrap IntKind.u64 j) else (64 : Nat)) % (18446744073709551616 : Int)) &&& (1 : Nat)) : Int)) = Value.int IntKind.u64 (↑b : Int),
    fun _ => (0 : Int) ≤ (3 : Int) ∧ (3 : Int) < (4 : Int),
    fun _ => ¬(1 : Int) < (0 : Int),
    fun _ => (0 : Int) ≤ (3 : Int) ∧ (3 : Int) < (4 : Int),
    fun _ => (3 : Nat) + (1 : Nat) ≤ (4 : Nat),
    fun _ => decide ((↑y : Int) ≤ IntKind.wrap IntKind.u64 (IntKind.wrap IntKind.u64 ((↑r : Int) * (2 : Int)) + (↑b : Int))) = false] (It.rnd [(0 : Nat), (0 : Nat), (1 : Nat), (0 : Nat), (0 : Nat), (1 : Nat), (0 : Nat), (0 : Nat), (1 : Nat), (0 : Nat), (1 : Nat), (1 : Nat), (1 : Nat)] (M + (1 : Nat)) :: kt) (St.mk [((9 : Nat), SV.v (Value.int IntKind.i64 (IntKind.wrap IntKind.i64 (j - (1 : Int))))), ((8 : Nat), SV.v (Value.int IntKind.i64 (3 : Int))), ((7 : Nat), SV.v (Value.int IntKind.u64 (IntKind.wrap IntKind.u64 (IntKind.wrap IntKind.u64 ((↑r : Int) * (2 : Int)) + (↑b : Int))))), ((6 : Nat), SV.p (2 : Nat) (0 : Nat)), ((5 : Nat), SV.v (Value.int IntKind.i64 (0 : Int))), ((4 : Nat), SV.p (1 : Nat) (0 : Nat)), ((2 : Nat), SV.p (0 : Nat) (0 : Nat)), ((1 : Nat), SV.v (Value.int IntKind.u64 (↑y : Int)))] [HO.cells (ec a) (24 : Nat), HO.cells (ec (0 : Nat)) (24 : Nat), HO.cells [SV.v (Value.int IntKind.u64 (↑o0 : Int)), SV.v (Value.int IntKind.u64 (↑o1 : Int)), SV.v (Value.int IntKind.u64 (↑o2 : Int)), SV.v (Value.int IntKind.u64 (IntKind.wrap IntKind.u64 ((↑o3 : Int) * (2 : Int))))] (24 : Nat)])]
  := by kernel_rfl

end Go.Proofs.Ytcipmpamhffclaa

namespace Go.Pl
theorem or_one (o : Nat) (h : o < 9223372036854775808) : IntKind.wrap IntKind.u64 (↑(Int.toNat (IntKind.wrap IntKind.u64 ((o : Int) * (2 : Int)) % (18446744073709551616 : Int)) ||| (1 : Nat)) : Int) = ((2 * o + 1 : Nat) : Int) := by
  rw [wrap64, wrap64]
  have h1 : Int.toNat ((o : Int) * 2 % 18446744073709551616 % 18446744073709551616) = 2 ^ 1 * o := by omega
  rw [h1, ← Nat.two_pow_add_eq_or_of_lt (by omega : 1 < 2 ^ 1)]
  omega
theorem bit_at (x j : Nat) (hj : j < 64) (hx : x < 18446744073709551616) : IntKind.wrap IntKind.u64 (↑(Int.toNat (Int.fdiv (x : Int) ((2 : Int) ^ if Int.toNat (IntKind.wrap IntKind.u64 (j : Int)) ≤ (64 : Nat) then Int.toNat (IntKind.wrap IntKind.u64 (j : Int)) else (64 : Nat)) % (18446744073709551616 : Int)) &&& (1 : Nat)) : Int) = ((x / 2 ^ j % 2 : Nat) : Int) := by
  have e0 : Int.toNat (IntKind.wrap IntKind.u64 (j : Int)) = j := by rw [wrap64]; omega
  have e1 : ((2 : Int) ^ j) = ((2 ^ j : Nat) : Int) := by rw [Int.natCast_pow]; rfl
  have h2 : x / 2 ^ j < 18446744073709551616 := Nat.lt_of_le_of_lt (Nat.div_le_self _ _) hx
  rw [e0, if_pos (by omega : j ≤ 64), e1, fdiv_nat x _ (Nat.two_pow_pos j), toNat_mod _ h2, Nat.and_one_is_mod, wrap64]
  omega
end Go.Pl
namespace Go.Proofs.Ytcipmpamhffclaa
open Go.Sx Go.Pl Go.RowKit
noncomputable def stX (a y r : Nat) (i j : Int) (o0 o1 o2 o3 : Nat) : St :=
  ⟨[(9, .v (.int .i64 j)), (8, .v (.int .i64 i)), (7, .v (.int .u64 (r : Int))), (6, .p 2 0), (5, .v (.int .i64 0)), (4, .p 1 0), (2, .p 0 0), (1, .v (.int .u64 (y : Int)))], hpD a o0 o1 o2 o3⟩
theorem rdig_round0 {w : World} {fin : Exit → Act → World → Prop} (hfin : ∀ c (a : Act) (d : Option Tmp) (v : Value) (w : World), fin (.panic c) (a.put d v) w → fin (.panic c) a w)
    (a y r o0 o1 o2 o3 j M : Nat) (kt : List It) (hj : j < 64) (hy : y ≤ 16) (hr : r < y) (ho : o0 < 9223372036854775808)
    (next : ∀ r' o' : Nat, r' < y → y * o' + r' = 2 * (y * o0 + r) + limb a 0 / 2 ^ j % 2 → Ok Try.prog (bodyOf Try.f48) 48 (F0 w) w fin (.rnd qX (M + 1) :: kt) (stX a y r' 0 ((j : Int) - 1) o' o1 o2 o3)) :
    Ok Try.prog (bodyOf Try.f48) 48 (F0 w) w fin (.at qX :: .rnd qX (M + 1) :: kt) (stX a y r 0 (j : Int) o0 o1 o2 o3) := by
  have hb : limb a 0 / 2 ^ j % 2 < 2 := Nat.mod_lt _ (by omega)
  have hbit := bit_at (limb a 0) j hj (limb_lt a 0)
  generalize limb a 0 / 2 ^ j % 2 = b at *
  have ej : IntKind.wrap IntKind.i64 ((j : Int) - 1) = (j : Int) - 1 := by
    simp [IntKind.wrap, IntKind.bits, IntKind.signed]; omega
  have e1 : IntKind.wrap IntKind.u64 (IntKind.wrap IntKind.u64 ((r : Int) * (2 : Int)) + (b : Int)) = ((2 * r + b : Nat) : Int) := by
    rw [wrap_u64, wrap_u64]; omega
  refine xgo_trim hm (F0.mono w) hfin 20 _ _ _ _ _ _ (rdigR0 a y r b o0 o1 o2 o3 M j kt) (paidCons (fun has => ⟨?_, ?_⟩) (paidCons (fun has => ⟨?_, ?_⟩) paidNil))
  · have h0 := has _ List.mem_cons_self
    simp only [hold_cons, hold_nil, and_true]
    refine ⟨fun _ _ => decide_eq_true (by omega), fun _ _ => ⟨by omega, by omega⟩, fun _ _ => by rw [wrap_u64]; omega, fun _ _ => by rw [hbit], fun _ _ => ⟨by omega, by omega⟩, fun _ _ => by omega, fun _ _ => ⟨by omega, by omega⟩, fun _ _ => by omega, fun _ _ => h0, fun _ _ => ⟨by omega, by omega⟩, fun _ _ => ⟨by omega, by omega⟩, fun _ _ => by omega⟩
  · have h0 := has _ List.mem_cons_self
    simp only [e1] at h0 ⊢
    have h1 : (y : Int) ≤ ((2 * r + b : Nat) : Int) := of_decide_eq_true h0
    have e2 : IntKind.wrap IntKind.u64 (((2 * r + b : Nat) : Int) - (y : Int)) = ((2 * r + b - y : Nat) : Int) := by rw [wrap_u64]; omega
    refine ok_mono ?_ (next (2 * r + b - y) (2 * o0 + 1) (by omega) ?_)
    · simp only [e2, ej, or_one o0 ho]
      rfl
    · rw [Nat.mul_add, Nat.mul_left_comm]
      omega
  · have h0 := has _ List.mem_cons_self
    simp only [hold_cons, hold_nil, and_true]
    refine ⟨fun _ _ => decide_eq_true (by omega), fun _ _ => ⟨by omega, by omega⟩, fun _ _ => by rw [wrap_u64]; omega, fun _ _ => by rw [hbit], fun _ _ => ⟨by omega, by omega⟩, fun _ _ => by omega, fun _ _ => ⟨by omega, by omega⟩, fun _ _ => by omega, fun _ _ => h0⟩
  · have h0 := has _ List.mem_cons_self
    simp only [e1] at h0 ⊢
    have h1 : ¬ (y : Int) ≤ ((2 * r + b : Nat) : Int) := of_decide_eq_false h0
    have e2 : IntKind.wrap IntKind.u64 ((o0 : Int) * (2 : Int)) = ((2 * o0 : Nat) : Int) := by rw [wrap_u64]; omega
    refine ok_mono ?_ (next (2 * r + b) (2 * o0) (by omega) ?_)
    · simp only [e2, ej]
      rfl
    · rw [Nat.mul_left_comm]
      omega
theorem rdig_round1 {w : World} {fin : Exit → Act → World → Prop} (hfin : ∀ c (a : Act) (d : Option Tmp) (v : Value) (w : World), fin (.panic c) (a.put d v) w → fin (.panic c) a w)
    (a y r o0 o1 o2 o3 j M : Nat) (kt : List It) (hj : j < 64) (hy : y ≤ 16) (hr : r < y) (ho : o1 < 9223372036854775808)
    (next : ∀ r' o' : Nat, r' < y → y * o' + r' = 2 * (y * o1 + r) + limb a 1 / 2 ^ j % 2 → Ok Try.prog (bodyOf Try.f48) 48 (F0 w) w fin (.rnd qX (M + 1) :: kt) (stX a y r' 1 ((j : Int) - 1) o0 o' o2 o3)) :
    Ok Try.prog (bodyOf Try.f48) 48 (F0 w) w fin (.at qX :: .rnd qX (M + 1) :: kt) (stX a y r 1 (j : Int) o0 o1 o2 o3) := by
  have hb : limb a 1 / 2 ^ j % 2 < 2 := Nat.mod_lt _ (by omega)
  have hbit := bit_at (limb a 1) j hj (limb_lt a 1)
  generalize limb a 1 / 2 ^ j % 2 = b at *
  have ej : IntKind.wrap IntKind.i64 ((j : Int) - 1) = (j : Int) - 1 := by
    simp [IntKind.wrap, IntKind.bits, IntKind.signed]; omega
  have e1 : IntKind.wrap IntKind.u64 (IntKind.wrap IntKind.u64 ((r : Int) * (2 : Int)) + (b : Int)) = ((2 * r + b : Nat) : Int) := by
    rw [wrap_u64, wrap_u64]; omega
  refine xgo_trim hm (F0.mono w) hfin 20 _ _ _ _ _ _ (rdigR1 a y r b o0 o1 o2 o3 M j kt) (paidCons (fun has => ⟨?_, ?_⟩) (paidCons (fun has => ⟨?_, ?_⟩) paidNil))
  · have h0 := has _ List.mem_cons_self
    simp only [hold_cons, hold_nil, and_true]
    refine ⟨fun _ _ => decide_eq_true (by omega), fun _ _ => ⟨by omega, by omega⟩, fun _ _ => by rw [wrap_u64]; omega, fun _ _ => by rw [hbit], fun _ _ => ⟨by omega, by omega⟩, fun _ _ => by omega, fun _ _ => ⟨by omega, by omega⟩, fun _ _ => by omega, fun _ _ => h0, fun _ _ => ⟨by omega, by omega⟩, fun _ _ => ⟨by omega, by omega⟩, fun _ _ => by omega⟩
  · have h0 := has _ List.mem_cons_self
    simp only [e1] at h0 ⊢
    have h1 : (y : Int) ≤ ((2 * r + b : Nat) : Int) := of_decide_eq_true h0
    have e2 : IntKind.wrap IntKind.u64 (((2 * r + b : Nat) : Int) - (y : Int)) = ((2 * r + b - y : Nat) : Int) := by rw [wrap_u64]; omega
    refine ok_mono ?_ (next (2 * r + b - y) (2 * o1 + 1) (by omega) ?_)
    · simp only [e2, ej, or_one o1 ho]
      rfl
    · rw [Nat.mul_add, Nat.mul_left_comm]
      omega
  · have h0 := has _ List.mem_cons_self
    simp only [hold_cons, hold_nil, and_true]
    refine ⟨fun _ _ => decide_eq_true (by omega), fun _ _ => ⟨by omega, by omega⟩, fun _ _ => by rw [wrap_u64]; omega, fun _ _ => by rw [hbit], fun _ _ => ⟨by omega, by omega⟩, fun _ _ => by omega, fun _ _ => ⟨by omega, by omega⟩, fun _ _ => by omega, fun _ _ => h0⟩
  · have h0 := has _ List.mem_cons_self
    simp only [e1] at h0 ⊢
    have h1 : ¬ (y : Int) ≤ ((2 * r + b : Nat) : Int) := of_decide_eq_false h0
    have e2 : IntKind.wrap IntKind.u64 ((o1 : Int) * (2 : Int)) = ((2 * o1 : Nat) : Int) := by rw [wrap_u64]; omega
    refine ok_mono ?_ (next (2 * r + b) (2 * o1) (by omega) ?_)
    · simp only [e2, ej]
      rfl
    · rw [Nat.mul_left_comm]
      omega
theorem rdig_round2 {w : World} {fin : Exit → Act → World → Prop} (hfin : ∀ c (a : Act) (d : Option Tmp) (v : Value) (w : World), fin (.panic c) (a.put d v) w → fin (.panic c) a w)
    (a y r o0 o1 o2 o3 j M : Nat) (kt : List It) (hj : j < 64) (hy : y ≤ 16) (hr : r < y) (ho : o2 < 9223372036854775808)
    (next : ∀ r' o' : Nat, r' < y → y * o' + r' = 2 * (y * o2 + r) + limb a 2 / 2 ^ j % 2 → Ok Try.prog (bodyOf Try.f48) 48 (F0 w) w fin (.rnd qX (M + 1) :: kt) (stX a y r' 2 ((j : Int) - 1) o0 o1 o' o3)) :
    Ok Try.prog (bodyOf Try.f48) 48 (F0 w) w fin (.at qX :: .rnd qX (M + 1) :: kt) (stX a y r 2 (j : Int) o0 o1 o2 o3) := by
  have hb : limb a 2 / 2 ^ j % 2 < 2 := Nat.mod_lt _ (by omega)
  have hbit := bit_at (limb a 2) j hj (limb_lt a 2)
  generalize limb a 2 / 2 ^ j % 2 = b at *
  have ej : IntKind.wrap IntKind.i64 ((j : Int) - 1) = (j : Int) - 1 := by
    simp [IntKind.wrap, IntKind.bits, IntKind.signed]; omega
  have e1 : IntKind.wrap IntKind.u64 (IntKind.wrap IntKind.u64 ((r : Int) * (2 : Int)) + (b : Int)) = ((2 * r + b : Nat) : Int) := by
    rw [wrap_u64, wrap_u64]; omega
  refine xgo_trim hm (F0.mono w) hfin 20 _ _ _ _ _ _ (rdigR2 a y r b o0 o1 o2 o3 M j kt) (paidCons (fun has => ⟨?_, ?_⟩) (paidCons (fun has => ⟨?_, ?_⟩) paidNil))
  · have h0 := has _ List.mem_cons_self
    simp only [hold_cons, hold_nil, and_true]
    refine ⟨fun _ _ => decide_eq_true (by omega), fun _ _ => ⟨by omega, by omega⟩, fun _ _ => by rw [wrap_u64]; omega, fun _ _ => by rw [hbit], fun _ _ => ⟨by omega, by omega⟩, fun _ _ => by omega, fun _ _ => ⟨by omega, by omega⟩, fun _ _ => by omega, fun _ _ => h0, fun _ _ => ⟨by omega, by omega⟩, fun _ _ => ⟨by omega, by omega⟩, fun _ _ => by omega⟩
  · have h0 := has _ List.mem_cons_self
    simp only [e1] at h0 ⊢
    have h1 : (y : Int) ≤ ((2 * r + b : Nat) : Int) := of_decide_eq_true h0
    have e2 : IntKind.wrap IntKind.u64 (((2 * r + b : Nat) : Int) - (y : Int)) = ((2 * r + b - y : Nat) : Int) := by rw [wrap_u64]; omega
    refine ok_mono ?_ (next (2 * r + b - y) (2 * o2 + 1) (by omega) ?_)
    · simp only [e2, ej, or_one o2 ho]
      rfl
    · rw [Nat.mul_add, Nat.mul_left_comm]
      omega
  · have h0 := has _ List.mem_cons_self
    simp only [hold_cons, hold_nil, and_true]
    refine ⟨fun _ _ => decide_eq_true (by omega), fun _ _ => ⟨by omega, by omega⟩, fun _ _ => by rw [wrap_u64]; omega, fun _ _ => by rw [hbit], fun _ _ => ⟨by omega, by omega⟩, fun _ _ => by omega, fun _ _ => ⟨by omega, by omega⟩, fun _ _ => by omega, fun _ _ => h0⟩
  · have h0 := has _ List.mem_cons_self
    simp only [e1] at h0 ⊢
    have h1 : ¬ (y : Int) ≤ ((2 * r + b : Nat) : Int) := of_decide_eq_false h0
    have e2 : IntKind.wrap IntKind.u64 ((o2 : Int) * (2 : Int)) = ((2 * o2 : Nat) : Int) := by rw [wrap_u64]; omega
    refine ok_mono ?_ (next (2 * r + b) (2 * o2) (by omega) ?_)
    · simp only [e2, ej]
      rfl
    · rw [Nat.mul_left_comm]
      omega
theorem rdig_round3 {w : World} {fin : Exit → Act → World → Prop} (hfin : ∀ c (a : Act) (d : Option Tmp) (v : Value) (w : World), fin (.panic c) (a.put d v) w → fin (.panic c) a w)
    (a y r o0 o1 o2 o3 j M : Nat) (kt : List It) (hj : j < 64) (hy : y ≤ 16) (hr : r < y) (ho : o3 < 9223372036854775808)
    (next : ∀ r' o' : Nat, r' < y → y * o' + r' = 2 * (y * o3 + r) + limb a 3 / 2 ^ j % 2 → Ok Try.prog (bodyOf Try.f48) 48 (F0 w) w fin (.rnd qX (M + 1) :: kt) (stX a y r' 3 ((j : Int) - 1) o0 o1 o2 o')) :
    Ok Try.prog (bodyOf Try.f48) 48 (F0 w) w fin (.at qX :: .rnd qX (M + 1) :: kt) (stX a y r 3 (j : Int) o0 o1 o2 o3) := by
  have hb : limb a 3 / 2 ^ j % 2 < 2 := Nat.mod_lt _ (by omega)
  have hbit := bit_at (limb a 3) j hj (limb_lt a 3)
  generalize limb a 3 / 2 ^ j % 2 = b at *
  have ej : IntKind.wrap IntKind.i64 ((j : Int) - 1) = (j : Int) - 1 := by
    simp [IntKind.wrap, IntKind.bits, IntKind.signed]; omega
  have e1 : IntKind.wrap IntKind.u64 (IntKind.wrap IntKind.u64 ((r : Int) * (2 : Int)) + (b : Int)) = ((2 * r + b : Nat) : Int) := by
    rw [wrap_u64, wrap_u64]; omega
  refine xgo_trim hm (F0.mono w) hfin 20 _ _ _ _ _ _ (rdigR3 a y r b o0 o1 o2 o3 M j kt) (paidCons (fun has => ⟨?_, ?_⟩) (paidCons (fun has => ⟨?_, ?_⟩) paidNil))
  · have h0 := has _ List.mem_cons_self
    simp only [hold_cons, hold_nil, and_true]
    refine ⟨fun _ _ => decide_eq_true (by omega), fun _ _ => ⟨by omega, by omega⟩, fun _ _ => by rw [wrap_u64]; omega, fun _ _ => by rw [hbit], fun _ _ => ⟨by omega, by omega⟩, fun _ _ => by omega, fun _ _ => ⟨by omega, by omega⟩, fun _ _ => by omega, fun _ _ => h0, fun _ _ => ⟨by omega, by omega⟩, fun _ _ => ⟨by omega, by omega⟩, fun _ _ => by omega⟩
  · have h0 := has _ List.mem_cons_self
    simp only [e1] at h0 ⊢
    have h1 : (y : Int) ≤ ((2 * r + b : Nat) : Int) := of_decide_eq_true h0
    have e2 : IntKind.wrap IntKind.u64 (((2 * r + b : Nat) : Int) - (y : Int)) = ((2 * r + b - y : Nat) : Int) := by rw [wrap_u64]; omega
    refine ok_mono ?_ (next (2 * r + b - y) (2 * o3 + 1) (by omega) ?_)
    · simp only [e2, ej, or_one o3 ho]
      rfl
    · rw [Nat.mul_add, Nat.mul_left_comm]
      omega
  · have h0 := has _ List.mem_cons_self
    simp only [hold_cons, hold_nil, and_true]
    refine ⟨fun _ _ => decide_eq_true (by omega), fun _ _ => ⟨by omega, by omega⟩, fun _ _ => by rw [wrap_u64]; omega, fun _ _ => by rw [hbit], fun _ _ => ⟨by omega, by omega⟩, fun _ _ => by omega, fun _ _ => ⟨by omega, by omega⟩, fun _ _ => by omega, fun _ _ => h0⟩
  · have h0 := has _ List.mem_cons_self
    simp only [e1] at h0 ⊢
    have h1 : ¬ (y : Int) ≤ ((2 * r + b : Nat) : Int) := of_decide_eq_false h0
    have e2 : IntKind.wrap IntKind.u64 ((o3 : Int) * (2 : Int)) = ((2 * o3 : Nat) : Int) := by rw [wrap_u64]; omega
    refine ok_mono ?_ (next (2 * r + b) (2 * o3) (by omega) ?_)
    · simp only [e2, ej]
      rfl
    · rw [Nat.mul_left_comm]
      omega
end Go.Proofs.Ytcipmpamhffclaa
