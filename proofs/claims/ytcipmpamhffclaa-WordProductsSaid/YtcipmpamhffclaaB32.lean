/- The document's remainder: states. -/
import Derived.Test.YtcipmpamhffclaaB29
namespace Go.Proofs.Ytcipmpamhffclaa
open Go.Sx Go.Pl Go.RowKit
def qT : List Nat := [0,0,1,0,1,1,1,1,1,1]
noncomputable def stT (a b m N r : Nat) (i : Int) : St :=
  ⟨[(11, .v (.int .i64 i)), (10, .p 8 0), (9, .o 7), (8, .p 4 0), (7, .v (.int .i64 0)), (6, .p 3 0), (5, .p 2 0), (4, .p 1 0), (3, .p 0 0)],
    [.cells (ec a) 24, .cells (ec b) 24, .cells (ec m) 24, .cells (ec 0) 24, .cells (ec 0) 24, .gone, .row 3 1 256 (mapv (hvs (bl (nb b 256)))), .row 3 1 512 (mapv (hvs (bl (nb N 512)))), .cells (ec r) 24]⟩
end Go.Proofs.Ytcipmpamhffclaa

namespace Go.Pl
open Go.Sx
/-- A number with its last bit put in, as the code has it. -/
noncomputable def od0 (x : Nat) : Int := IntKind.wrap IntKind.u64 (↑(Int.toNat (((limb x (0 : Nat) : Nat) : Int) % (18446744073709551616 : Int)) ||| (1 : Nat)) : Int)
noncomputable def odN (x : Nat) : Nat := nv (Int.toNat (od0 x)) (Int.toNat ((limb x 1 : Nat) : Int)) (Int.toNat ((limb x 2 : Nat) : Int)) (Int.toNat ((limb x 3 : Nat) : Int))
noncomputable def odE (x : Nat) : Value := .agg #[.int .u64 (od0 x), .int .u64 ((limb x 1 : Nat) : Int), .int .u64 ((limb x 2 : Nat) : Int), .int .u64 ((limb x 3 : Nat) : Int)]
noncomputable def odC (x : Nat) : List SV := [.v (.int .u64 (od0 x)), .v (.int .u64 ((limb x 1 : Nat) : Int)), .v (.int .u64 ((limb x 2 : Nat) : Int)), .v (.int .u64 ((limb x 3 : Nat) : Int))]
theorem od_eq (x : Nat) : od0 (2 * x) = ((limb (2 * x) 0 + 1 : Nat) : Int) ∧ limb (2 * x) 0 + 1 < 18446744073709551616 ∧ nv (limb (2 * x) 0 + 1) (limb (2 * x) 1) (limb (2 * x) 2) (limb (2 * x) 3) = (2 * x + 1) % top := by
  have h0 := limb_lt (2 * x) 0
  have he : limb (2 * x) 0 % 2 = 0 := by rw [limb0]; omega
  have hor : limb (2 * x) 0 ||| 1 = limb (2 * x) 0 + 1 := by
    have h1 : limb (2 * x) 0 = 2 ^ 1 * (limb (2 * x) 0 / 2) := by omega
    rw [h1, ← Nat.two_pow_add_eq_or_of_lt (by omega : 1 < 2 ^ 1)]
  refine ⟨?_, by omega, ?_⟩
  · rw [od0, wrap64]
    have h2 : Int.toNat (((limb (2 * x) 0 : Nat) : Int) % 18446744073709551616) = limb (2 * x) 0 := by omega
    rw [h2, hor]
    omega
  · have h3 := nv_limb (2 * x)
    simp only [nv, top] at h3 ⊢
    omega
theorem odN_eq (x : Nat) : odN (2 * x) = (2 * x + 1) % top := by
  obtain ⟨h1, h2, h3⟩ := od_eq x
  simp only [odN, h1, Int.toNat_natCast]
  exact h3
theorem odE_eq (x : Nat) : odE (2 * x) = el ((2 * x + 1) % top) := by
  obtain ⟨h1, h2, h3⟩ := od_eq x
  rw [← h3, el_nv h2 (limb_lt _ _) (limb_lt _ _) (limb_lt _ _), odE, h1]
theorem odC_eq (x : Nat) : odC (2 * x) = [SV.v (.int .u64 ((limb ((2 * x + 1) % top) 0 : Nat) : Int)), SV.v (.int .u64 ((limb ((2 * x + 1) % top) 1 : Nat) : Int)), SV.v (.int .u64 ((limb ((2 * x + 1) % top) 2 : Nat) : Int)), SV.v (.int .u64 ((limb ((2 * x + 1) % top) 3 : Nat) : Int))] := by
  obtain ⟨h1, h2, h3⟩ := od_eq x
  obtain ⟨g0, g1, g2, g3⟩ := limb_nv h2 (limb_lt (2 * x) 1) (limb_lt (2 * x) 2) (limb_lt (2 * x) 3)
  rw [← h3, odC, h1, g0, g1, g2, g3]
theorem elN_mod (n : Nat) : elN n = n % top := by
  simp only [elN, Int.toNat_natCast]
  exact nv_limb n
theorem nb_step (r h m n : Nat) : ((2 * r + h / 2 ^ n % 2) % m * 2 ^ n + h % 2 ^ n) % m = (r * 2 ^ (n + 1) + h % 2 ^ (n + 1)) % m := by
  have h1 := mod_succ h n
  have h2 : r * 2 ^ (n + 1) + h % 2 ^ (n + 1) = (2 * r + h / 2 ^ n % 2) * 2 ^ n + h % 2 ^ n := by
    rw [h1, Nat.add_mul, Nat.pow_succ]
    have : r * (2 ^ n * 2) = 2 * r * 2 ^ n := by rw [Nat.mul_comm (2 ^ n) 2, ← Nat.mul_assoc, Nat.mul_comm r 2]
    rw [this, Nat.mul_comm (h / 2 ^ n % 2)]
    omega
  rw [h2, Nat.add_mod, Nat.mod_mul_mod, ← Nat.add_mod]
end Go.Pl
namespace Go.Proofs.Ytcipmpamhffclaa
open Go.Sx Go.Pl Go.RowKit
theorem rremStart (a b m : Nat) : ((xgo Try.prog X (bodyOf Try.f21) 56 CJ [] 50 [] ((.br [] .nil [] .nil)) [.at []] ⟨argsTm 0 [el a, el b, el m], []⟩ [] []).map (trims [11, 10, 9, 8, 7, 6, 5, 4, 3])) =
  some [Leaf2.mk [decide (elL m = [(0 : Int), (0 : Int), (0 : Int), (0 : Int)]) = true] [fun _ => (4 : Nat) ≤ (4 : Nat),
    fun _ => decide (elL m = [(0 : Int), (0 : Int), (0 : Int), (0 : Int)]) = true,
    fun _ => (4 : Nat) ≤ (4 : Nat)] [It.ret, It.at [(1 : Nat), (1 : Nat), (1 : Nat)]] (St.mk [((8 : Nat), SV.p (4 : Nat) (0 : Nat)), ((7 : Nat), SV.v (Value.int IntKind.i64 (10 : Int))), ((6 : Nat), SV.p (3 : Nat) (0 : Nat)), ((5 : Nat), SV.p (2 : Nat) (0 : Nat)), ((4 : Nat), SV.p (1 : Nat) (0 : Nat)), ((3 : Nat), SV.p (0 : Nat) (0 : Nat))] [HO.cells (ec a) (24 : Nat), HO.cells (ec b) (24 : Nat), HO.cells (ec m) (24 : Nat), HO.cells [SV.v (Value.int IntKind.u64 (0 : Int)), SV.v (Value.int IntKind.u64 (0 : Int)), SV.v (Value.int IntKind.u64 (0 : Int)), SV.v (Value.int IntKind.u64 (0 : Int))] (24 : Nat), HO.cells [SV.v (Value.int IntKind.u64 (0 : Int)), SV.v (Value.int IntKind.u64 (0 : Int)), SV.v (Value.int IntKind.u64 (0 : Int)), SV.v (Value.int IntKind.u64 (0 : Int))] (24 : Nat)]),
  Leaf2.mk [decide (elL m = [(0 : Int), (0 : Int), (0 : Int), (0 : Int)]) = false] [fun _ => (4 : Nat) ≤ (4 : Nat),
    fun _ => decide (elL m = [(0 : Int), (0 : Int), (0 : Int), (0 : Int)]) = false,
    fun _ => el a = el (elN a),
    fun _ => el b = el (elN b),
    fun _ => (4096 : Nat) ≤ (140737488355328 : Nat) ∧ (512 : Nat) ≤ (140737488355328 : Nat),
    fun _ => (4 : Nat) ≤ (4 : Nat)] [It.at [(0 : Nat), (1 : Nat), (0 : Nat), (1 : Nat), (1 : Nat), (1 : Nat), (1 : Nat), (1 : Nat), (1 : Nat)], It.blk (0 : Nat), It.at [(1 : Nat), (1 : Nat), (1 : Nat), (1 : Nat), (1 : Nat), (1 : Nat), (1 : Nat)]] (St.mk [((11 : Nat), SV.v (Value.int IntKind.i64 (511 : Int))), ((10 : Nat), SV.p (8 : Nat) (0 : Nat)), ((9 : Nat), SV.o (7 : Nat)), ((8 : Nat), SV.p (4 : Nat) (0 : Nat)), ((7 : Nat), SV.v (Value.int IntKind.i64 (0 : Int))), ((6 : Nat), SV.p (3 : Nat) (0 : Nat)), ((5 : Nat), SV.p (2 : Nat) (0 : Nat)), ((4 : Nat), SV.p (1 : Nat) (0 : Nat)), ((3 : Nat), SV.p (0 : Nat) (0 : Nat))] [HO.cells (ec a) (24 : Nat), HO.cells (ec b) (24 : Nat), HO.cells (ec m) (24 : Nat), HO.cells [SV.v (Value.int IntKind.u64 (0 : Int)), SV.v (Value.int IntKind.u64 (0 : Int)), SV.v (Value.int IntKind.u64 (0 : Int)), SV.v (Value.int IntKind.u64 (0 : Int))] (24 : Nat), HO.cells [SV.v (Value.int IntKind.u64 (0 : Int)), SV.v (Value.int IntKind.u64 (0 : Int)), SV.v (Value.int IntKind.u64 (0 : Int)), SV.v (Value.int IntKind.u64 (0 : Int))] (24 : Nat), HO.gone, HO.row (3 : Nat) (1 : Nat) (256 : Nat) (mapv (hvs (bl (nb (elN b) (256 : Nat))))), HO.row (3 : Nat) (1 : Nat) (512 : Nat) (mapv (hvs (bl (nb (elN a) (256 : Nat)))) ++ mapv (hvs (bl (nb (elN b) (256 : Nat))))), HO.cells [SV.v (Value.int IntKind.u64 (0 : Int)), SV.v (Value.int IntKind.u64 (0 : Int)), SV.v (Value.int IntKind.u64 (0 : Int)), SV.v (Value.int IntKind.u64 (0 : Int))] (24 : Nat)])]
  := by kernel_rfl

theorem rremRound (a b m N r v M : Nat) (i : Int) (kt : List It) : ((xgo Try.prog X (bodyOf Try.f21) 56 CJ [] 20 [.t, .lo 7 (.v (.int .i64 (v : Int)))] ((.br [] (.br [.t] .nil [] (.br [] .nil [] .nil)) [] (.br [.t] .nil [] (.br [] .nil [] .nil)))) (.at qT :: .rnd qT (M + 1) :: kt) (stT a b m N r i) [] []).map (trims [11, 10, 9, 8, 7, 6, 5, 4, 3])) =
  some [Leaf2.mk [((↑v : Int) == (1 : Int)) = true, decide (top ≤ (2 : Nat) * elN r) = true] [fun _ => decide ((0 : Int) ≤ i) = true,
    fun _ => el r = el (elN r) ∧ elN r < top,
    fun _ => (0 : Nat) + (4 : Nat) ≤ (4 : Nat),
    fun _ => (0 : Int) ≤ i ∧ i < (512 : Int),
    fun _ => (0 : Nat) < List.length (mapv (hvs (bl (nb N (512 : Nat))))),
    fun _ => (mapv (hvs (bl (nb N (512 : Nat)))))[Int.toNat i * (1 : Nat)]? = some (SV.v (Value.int IntKind.i64 (↑v : Int))),
    fun _ => ((↑v : Int) == (1 : Int)) = true,
    fun _ => (0 : Int) ≤ (0 : Int) ∧ (0 : Int) < (4 : Int),
    fun _ => (0 : Int) ≤ (0 : Int) ∧ (0 : Int) < (4 : Int),
    fun _ => (0 : Nat) + (1 : Nat) ≤ (4 : Nat),
    fun _ => decide (top ≤ (2 : Nat) * elN r) = true,
    fun _ => true = true,
    fun _ => odE ((2 : Nat) * elN r) = el (odN ((2 : Nat) * elN r)) ∧ el m = el (elN m) ∧ odN ((2 : Nat) * elN r) < top ∧ elN m < top,
    fun _ => (0 : Nat) + (4 : Nat) ≤ (4 : Nat),
    fun _ => (0 : Nat) + (4 : Nat) ≤ (4 : Nat)] (It.rnd [(0 : Nat), (0 : Nat), (1 : Nat), (0 : Nat), (1 : Nat), (1 : Nat), (1 : Nat), (1 : Nat), (1 : Nat), (1 : Nat)] (M + (1 : Nat)) :: kt) (St.mk [((11 : Nat), SV.v (Value.int IntKind.i64 (IntKind.wrap IntKind.i64 (i - (1 : Int))))), ((10 : Nat), SV.p (8 : Nat) (0 : Nat)), ((9 : Nat), SV.o (7 : Nat)), ((8 : Nat), SV.p (4 : Nat) (0 : Nat)), ((7 : Nat), SV.v (Value.int IntKind.i64 (0 : Int))), ((6 : Nat), SV.p (3 : Nat) (0 : Nat)), ((5 : Nat), SV.p (2 : Nat) (0 : Nat)), ((4 : Nat), SV.p (1 : Nat) (0 : Nat)), ((3 : Nat), SV.p (0 : Nat) (0 : Nat))] [HO.cells (ec a) (24 : Nat), HO.cells (ec b) (24 : Nat), HO.cells (ec m) (24 : Nat), HO.cells (ec (0 : Nat)) (24 : Nat), HO.cells (ec (0 : Nat)) (24 : Nat), HO.gone, HO.row (3 : Nat) (1 : Nat) (256 : Nat) (mapv (hvs (bl (nb b (256 : Nat))))), HO.row (3 : Nat) (1 : Nat) (512 : Nat) (mapv (hvs (bl (nb N (512 : Nat))))), HO.cells (ec (odN ((2 : Nat) * elN r) + top - elN m)) (24 : Nat), HO.cells (ec (odN ((2 : Nat) * elN r) + top - elN m)) (24 : Nat)]),
  Leaf2.mk [((↑v : Int) == (1 : Int)) = true, decide (top ≤ (2 : Nat) * elN r) = false, (!decide (odN ((2 : Nat) * elN r) < elN m)) = true] [fun _ => decide ((0 : Int) ≤ i) = true,
    fun _ => el r = el (elN r) ∧ elN r < top,
    fun _ => (0 : Nat) + (4 : Nat) ≤ (4 : Nat),
    fun _ => (0 : Int) ≤ i ∧ i < (512 : Int),
    fun _ => (0 : Nat) < List.length (mapv (hvs (bl (nb N (512 : Nat))))),
    fun _ => (mapv (hvs (bl (nb N (512 : Nat)))))[Int.toNat i * (1 : Nat)]? = some (SV.v (Value.int IntKind.i64 (↑v : Int))),
    fun _ => ((↑v : Int) == (1 : Int)) = true,
    fun _ => (0 : Int) ≤ (0 : Int) ∧ (0 : Int) < (4 : Int),
    fun _ => (0 : Int) ≤ (0 : Int) ∧ (0 : Int) < (4 : Int),
    fun _ => (0 : Nat) + (1 : Nat) ≤ (4 : Nat),
    fun _ => decide (top ≤ (2 : Nat) * elN r) = false,
    fun _ => odE ((2 : Nat) * elN r) = el (odN ((2 : Nat) * elN r)) ∧ el m = el (elN m) ∧ odN ((2 : Nat) * elN r) < top ∧ elN m < top,
    fun _ => (!decide (odN ((2 : Nat) * elN r) < elN m)) = true,
    fun _ => odE ((2 : Nat) * elN r) = el (odN ((2 : Nat) * elN r)) ∧ el m = el (elN m) ∧ odN ((2 : Nat) * elN r) < top ∧ elN m < top,
    fun _ => (0 : Nat) + (4 : Nat) ≤ (4 : Nat),
    fun _ => (0 : Nat) + (4 : Nat) ≤ (4 : Nat)] (It.rnd [(0 : Nat), (0 : Nat), (1 : Nat), (0 : Nat), (1 : Nat), (1 : Nat), (1 : Nat), (1 : Nat), (1 : Nat), (1 : Nat)] (M + (1 : Nat)) :: kt) (St.mk [((11 : Nat), SV.v (Value.int IntKind.i64 (IntKind.wrap IntKind.i64 (i - (1 : Int))))), ((10 : Nat), SV.p (8 : Nat) (0 : Nat)), ((9 : Nat), SV.o (7 : Nat)), ((8 : Nat), SV.p (4 : Nat) (0 : Nat)), ((7 : Nat), SV.v (Value.int IntKind.i64 (0 : Int))), ((6 : Nat), SV.p (3 : Nat) (0 : Nat)), ((5 : Nat), SV.p (2 : Nat) (0 : Nat)), ((4 : Nat), SV.p (1 : Nat) (0 : Nat)), ((3 : Nat), SV.p (0 : Nat) (0 : Nat))] [HO.cells (ec a) (24 : Nat), HO.cells (ec b) (24 : Nat), HO.cells (ec m) (24 : Nat), HO.cells (ec (0 : Nat)) (24 : Nat), HO.cells (ec (0 : Nat)) (24 : Nat), HO.gone, HO.row (3 : Nat) (1 : Nat) (256 : Nat) (mapv (hvs (bl (nb b (256 : Nat))))), HO.row (3 : Nat) (1 : Nat) (512 : Nat) (mapv (hvs (bl (nb N (512 : Nat))))), HO.cells (ec (odN ((2 : Nat) * elN r) + top - elN m)) (24 : Nat), HO.cells (ec (odN ((2 : Nat) * elN r) + top - elN m)) (24 : Nat)]),
  Leaf2.mk [((↑v : Int) == (1 : Int)) = true, decide (top ≤ (2 : Nat) * elN r) = false, (!decide (odN ((2 : Nat) * elN r) < elN m)) = false] [fun _ => decide ((0 : Int) ≤ i) = true,
    fun _ => el r = el (elN r) ∧ elN r < top,
    fun _ => (0 : Nat) + (4 : Nat) ≤ (4 : Nat),
    fun _ => (0 : Int) ≤ i ∧ i < (512 : Int),
    fun _ => (0 : Nat) < List.length (mapv (hvs (bl (nb N (512 : Nat))))),
    fun _ => (mapv (hvs (bl (nb N (512 : Nat)))))[Int.toNat i * (1 : Nat)]? = some (SV.v (Value.int IntKind.i64 (↑v : Int))),
    fun _ => ((↑v : Int) == (1 : Int)) = true,
    fun _ => (0 : Int) ≤ (0 : Int) ∧ (0 : Int) < (4 : Int),
    fun _ => (0 : Int) ≤ (0 : Int) ∧ (0 : Int) < (4 : Int),
    fun _ => (0 : Nat) + (1 : Nat) ≤ (4 : Nat),
    fun _ => decide (top ≤ (2 : Nat) * elN r) = false,
    fun _ => odE ((2 : Nat) * elN r) = el (odN ((2 : Nat) * elN r)) ∧ el m = el (elN m) ∧ odN ((2 : Nat) * elN r) < top ∧ elN m < top,
    fun _ => (!decide (odN ((2 : Nat) * elN r) < elN m)) = false,
    fun _ => (0 : Nat) + (4 : Nat) ≤ (4 : Nat)] (It.rnd [(0 : Nat), (0 : Nat), (1 : Nat), (0 : Nat), (1 : Nat), (1 : Nat), (1 : Nat), (1 : Nat), (1 : Nat), (1 : Nat)] (M + (1 : Nat)) :: kt) (St.mk [((11 : Nat), SV.v (Value.int IntKind.i64 (IntKind.wrap IntKind.i64 (i - (1 : Int))))), ((10 : Nat), SV.p (8 : Nat) (0 : Nat)), ((9 : Nat), SV.o (7 : Nat)), ((8 : Nat), SV.p (4 : Nat) (0 : Nat)), ((7 : Nat), SV.v (Value.int IntKind.i64 (0 : Int))), ((6 : Nat), SV.p (3 : Nat) (0 : Nat)), ((5 : Nat), SV.p (2 : Nat) (0 : Nat)), ((4 : Nat), SV.p (1 : Nat) (0 : Nat)), ((3 : Nat), SV.p (0 : Nat) (0 : Nat))] [HO.cells (ec a) (24 : Nat), HO.cells (ec b) (24 : Nat), HO.cells (ec m) (24 : Nat), HO.cells (ec (0 : Nat)) (24 : Nat), HO.cells (ec (0 : Nat)) (24 : Nat), HO.gone, HO.row (3 : Nat) (1 : Nat) (256 : Nat) (mapv (hvs (bl (nb b (256 : Nat))))), HO.row (3 : Nat) (1 : Nat) (512 : Nat) (mapv (hvs (bl (nb N (512 : Nat))))), HO.cells (odC ((2 : Nat) * elN r)) (24 : Nat), HO.cells (odC ((2 : Nat) * elN r)) (24 : Nat)]),
  Leaf2.mk [((↑v : Int) == (1 : Int)) = false, decide (top ≤ (2 : Nat) * elN r) = true] [fun _ => decide ((0 : Int) ≤ i) = true,
    fun _ => el r = el (elN r) ∧ elN r < top,
    fun _ => (0 : Nat) + (4 : Nat) ≤ (4 : Nat),
    fun _ => (0 : Int) ≤ i ∧ i < (512 : Int),
    fun _ => (0 : Nat) < List.length (mapv (hvs (bl (nb N (512 : Nat))))),
    fun _ => (mapv (hvs (bl (nb N (512 : Nat)))))[Int.toNat i * (1 : Nat)]? = some (SV.v (Value.int IntKind.i64 (↑v : Int))),
    fun _ => ((↑v : Int) == (1 : Int)) = false,
    fun _ => decide (top ≤ (2 : Nat) * elN r) = true,
    fun _ => true = true,
    fun _ => el ((2 : Nat) * elN r) = el (elN ((2 : Nat) * elN r)) ∧ el m = el (elN m) ∧ elN ((2 : Nat) * elN r) < top ∧ elN m < top,
    fun _ => (0 : Nat) + (4 : Nat) ≤ (4 : Nat),
    fun _ => (0 : Nat) + (4 : Nat) ≤ (4 : Nat)] (It.rnd [(0 : Nat), (0 : Nat), (1 : Nat), (0 : Nat), (1 : Nat), (1 : Nat), (1 : Nat), (1 : Nat), (1 : Nat), (1 : Nat)] (M + (1 : Nat)) :: kt) (St.mk [((11 : Nat), SV.v (Value.int IntKind.i64 (IntKind.wrap IntKind.i64 (i - (1 : Int))))), ((10 : Nat), SV.p (8 : Nat) (0 : Nat)), ((9 : Nat), SV.o (7 : Nat)), ((8 : Nat), SV.p (4 : Nat) (0 : Nat)), ((7 : Nat), SV.v (Value.int IntKind.i64 (0 : Int))), ((6 : Nat), SV.p (3 : Nat) (0 : Nat)), ((5 : Nat), SV.p (2 : Nat) (0 : Nat)), ((4 : Nat), SV.p (1 : Nat) (0 : Nat)), ((3 : Nat), SV.p (0 : Nat) (0 : Nat))] [HO.cells (ec a) (24 : Nat), HO.cells (ec b) (24 : Nat), HO.cells (ec m) (24 : Nat), HO.cells (ec (0 : Nat)) (24 : Nat), HO.cells (ec (0 : Nat)) (24 : Nat), HO.gone, HO.row (3 : Nat) (1 : Nat) (256 : Nat) (mapv (hvs (bl (nb b (256 : Nat))))), HO.row (3 : Nat) (1 : Nat) (512 : Nat) (mapv (hvs (bl (nb N (512 : Nat))))), HO.cells (ec (elN ((2 : Nat) * elN r) + top - elN m)) (24 : Nat), HO.cells (ec (elN ((2 : Nat) * elN r) + top - elN m)) (24 : Nat)]),
  Leaf2.mk [((↑v : Int) == (1 : Int)) = false, decide (top ≤ (2 : Nat) * elN r) = false, (!decide (elN ((2 : Nat) * elN r) < elN m)) = true] [fun _ => decide ((0 : Int) ≤ i) = true,
    fun _ => el r = el (elN r) ∧ elN r < top,
    fun _ => (0 : Nat) + (4 : Nat) ≤ (4 : Nat),
    fun _ => (0 : Int) ≤ i ∧ i < (512 : Int),
    fun _ => (0 : Nat) < List.length (mapv (hvs (bl (nb N (512 : Nat))))),
    fun _ => (mapv (hvs (bl (nb N (512 : Nat)))))[Int.toNat i * (1 : Nat)]? = some (SV.v (Value.int IntKind.i64 (↑v : Int))),
    fun _ => ((↑v : Int) == (1 : Int)) = false,
    fun _ => decide (top ≤ (2 : Nat) * elN r) = false,
    fun _ => el ((2 : Nat) * elN r) = el (elN ((2 : Nat) * elN r)) ∧ el m = el (elN m) ∧ elN ((2 : Nat) * elN r) < top ∧ elN m < top,
    fun _ => (!decide (elN ((2 : Nat) * elN r) < elN m)) = true,
    fun _ => el ((2 : Nat) * elN r) = el (elN ((2 : Nat) * elN r)) ∧ el m = el (elN m) ∧ elN ((2 : Nat) * elN r) < top ∧ elN m < top,
    fun _ => (0 : Nat) + (4 : Nat) ≤ (4 : Nat),
    fun _ => (0 : Nat) + (4 : Nat) ≤ (4 : Nat)] (It.rnd [(0 : Nat), (0 : Nat), (1 : Nat), (0 : Nat), (1 : Nat), (1 : Nat), (1 : Nat), (1 : Nat), (1 : Nat), (1 : Nat)] (M + (1 : Nat)) :: kt) (St.mk [((11 : Nat), SV.v (Value.int IntKind.i64 (IntKind.wrap IntKind.i64 (i - (1 : Int))))), ((10 : Nat), SV.p (8 : Nat) (0 : Nat)), ((9 : Nat), SV.o (7 : Nat)), ((8 : Nat), SV.p (4 : Nat) (0 : Nat)), ((7 : Nat), SV.v (Value.int IntKind.i64 (0 : Int))), ((6 : Nat), SV.p (3 : Nat) (0 : Nat)), ((5 : Nat), SV.p (2 : Nat) (0 : Nat)), ((4 : Nat), SV.p (1 : Nat) (0 : Nat)), ((3 : Nat), SV.p (0 : Nat) (0 : Nat))] [HO.cells (ec a) (24 : Nat), HO.cells (ec b) (24 : Nat), HO.cells (ec m) (24 : Nat), HO.cells (ec (0 : Nat)) (24 : Nat), HO.cells (ec (0 : Nat)) (24 : Nat), HO.gone, HO.row (3 : Nat) (1 : Nat) (256 : Nat) (mapv (hvs (bl (nb b (256 : Nat))))), HO.row (3 : Nat) (1 : Nat) (512 : Nat) (mapv (hvs (bl (nb N (512 : Nat))))), HO.cells (ec (elN ((2 : Nat) * elN r) + top - elN m)) (24 : Nat), HO.cells (ec (elN ((2 : Nat) * elN r) + top - elN m)) (24 : Nat)]),
  Leaf2.mk [((↑v : Int) == (1 : Int)) = false, decide (top ≤ (2 : Nat) * elN r) = false, (!decide (elN ((2 : Nat) * elN r) < elN m)) = false] [fun _ => decide ((0 : Int) ≤ i) = true,
    fun _ => el r = el (elN r) ∧ elN r < top,
    fun _ => (0 : Nat) + (4 : Nat) ≤ (4 : Nat),
    fun _ => (0 : Int) ≤ i ∧ i < (512 : Int),
    fun _ => (0 : Nat) < List.length (mapv (hvs (bl (nb N (512 : Nat))))),
    fun _ => (mapv (hvs (bl (nb N (512 : Nat)))))[Int.toNat i * (1 : Nat)]? = some (SV.v (Value.int IntKind.i64 (↑v : Int))),
    fun _ => ((↑v : Int) == (1 : Int)) = false,
    fun _ => decide (top ≤ (2 : Nat) * elN r) = false,
    fun _ => el ((2 : Nat) * elN r) = el (elN ((2 : Nat) * elN r)) ∧ el m = el (elN m) ∧ elN ((2 : Nat) * elN r) < top ∧ elN m < top,
    fun _ => (!decide (elN ((2 : Nat) * elN r) < elN m)) = false,
    fun _ => (0 : Nat) + (4 : Nat) ≤ (4 : Nat)] (It.rnd [(0 : Nat), (0 : Nat), (1 : Nat), (0 : Nat), (1 : Nat), (1 : Nat), (1 : Nat), (1 : Nat), (1 : Nat), (1 : Nat)] (M + (1 : Nat)) :: kt) (St.mk [((11 : Nat), SV.v (Value.int IntKind.i64 (IntKind.wrap IntKind.i64 (i - (1 : Int))))), ((10 : Nat), SV.p (8 : Nat) (0 : Nat)), ((9 : Nat), SV.o (7 : Nat)), ((8 : Nat), SV.p (4 : Nat) (0 : Nat)), ((7 : Nat), SV.v (Value.int IntKind.i64 (0 : Int))), ((6 : Nat), SV.p (3 : Nat) (0 : Nat)), ((5 : Nat), SV.p (2 : Nat) (0 : Nat)), ((4 : Nat), SV.p (1 : Nat) (0 : Nat)), ((3 : Nat), SV.p (0 : Nat) (0 : Nat))] [HO.cells (ec a) (24 : Nat), HO.cells (ec b) (24 : Nat), HO.cells (ec m) (24 : Nat), HO.cells (ec (0 : Nat)) (24 : Nat), HO.cells (ec (0 : Nat)) (24 : Nat), HO.gone, HO.row (3 : Nat) (1 : Nat) (256 : Nat) (mapv (hvs (bl (nb b (256 : Nat))))), HO.row (3 : Nat) (1 : Nat) (512 : Nat) (mapv (hvs (bl (nb N (512 : Nat))))), HO.cells (ec ((2 : Nat) * elN r)) (24 : Nat), HO.cells (ec ((2 : Nat) * elN r)) (24 : Nat)])]
  := by kernel_rfl

theorem rremEnd (a b m N r : Nat) (i : Int) : (((xgo Try.prog X (bodyOf Try.f21) 56 CJ [] 30 [.f] (.nil) [.at qT, .rnd qT 1, .blk 0, .at [1,1,1,1,1,1,1]] (stT a b m N r i) [] []).bind (ends Try.prog Try.f21.results.toList)).bind plainE) =
  some [EndP.mk [] [fun _ => decide ((0 : Int) ≤ i) = false,
    fun _ => (0 : Nat) + (4 : Nat) ≤ (4 : Nat)] (Res.v (Value.tuple (Array.mk [el r, Value.int IntKind.i64 (0 : Int)])))]
  := by kernel_rfl

theorem nb_row2 (N i : Nat) (h : i < 512) : (mapv (hvs (bl (nb N (512 : Nat)))))[Int.toNat (i : Int) * (1 : Nat)]? = some (SV.v (Value.int IntKind.i64 ((N / 2 ^ i % 2 : Nat) : Int))) := by
  rw [hvs_eq, Int.toNat_natCast, Nat.mul_one, mapv_get _ _ (by rw [nb_length]; exact h), hide_eq, nb_get N 512 i h]
theorem nb_row2_pos (N : Nat) : (0 : Nat) < List.length (mapv (hvs (bl (nb N (512 : Nat))))) := by
  rw [hvs_eq, mapv_length, nb_length]; omega
theorem rrem_round {w : World} {fin : Exit → Act → World → Prop} (hfin : ∀ c (a : Act) (d : Option Tmp) (v : Value) (w : World), fin (.panic c) (a.put d v) w → fin (.panic c) a w)
    (a b m N r i M : Nat) (kt : List It) (hi : i < 512) (hmt : m < top) (hr : r < m)
    (next : Ok Try.prog (bodyOf Try.f21) 56 (F0 w) w fin (.rnd qT (M + 1) :: kt) (stT a b m N ((2 * r + N / 2 ^ i % 2) % m) ((i : Int) - 1))) :
    Ok Try.prog (bodyOf Try.f21) 56 (F0 w) w fin (.at qT :: .rnd qT (M + 1) :: kt) (stT a b m N r (i : Int)) := by
  have hv : N / 2 ^ i % 2 < 2 := Nat.mod_lt _ (by omega)
  have rv := nb_row2 N i hi
  generalize N / 2 ^ i % 2 = v at *
  have hrt : r < top := by omega
  have en := elN_eq hrt
  have em := elN_eq hmt
  have e2 := elN_mod (2 * r)
  have hwp : IntKind.wrap IntKind.i64 ((i : Int) - 1) = (i : Int) - 1 := by
    simp [IntKind.wrap, IntKind.bits, IntKind.signed]; omega
  have key : ∀ (x : Nat) (tm : List (Nat × SV)) (hp : List HO), x % top = ((2 * r + v) % m) % top →
      RenT [0,1,2,3,4,5,6,7,8] tm (stT a b m N x ((i : Int) - 1)).tm → RenH [0,1,2,3,4,5,6,7,8] hp (stT a b m N x ((i : Int) - 1)).heap [0,1,2,3,4,5,6,7,8] → Ok Try.prog (bodyOf Try.f21) 56 (F0 w) w fin (.rnd qT (M + 1) :: kt) ⟨tm, hp⟩ := by
    intro x tm hp hx h1 h2
    have he : stT a b m N x ((i : Int) - 1) = stT a b m N ((2 * r + v) % m) ((i : Int) - 1) := by
      simp only [stT, ec_cells hx]
    rw [he] at h1 h2
    refine Ok.weaken (F0.mono w) [0,1,2,3,4,5,6,7,8] _ h1 h2 rfl ⟨?_, ?_⟩ next
    · simp [stT, wsAllT, ws]
    · simp [stT, wsAllH, HO.ws, ec, wsL, ws]
      exact ⟨wsL_mapv _ _, wsL_mapv _ _⟩
  have hT : ∀ (z : Int), z = (i : Int) - 1 → ∀ x : Nat, RenT [0,1,2,3,4,5,6,7,8] [(11, SV.v (Value.int IntKind.i64 z)), (10, SV.p 8 0), (9, SV.o 7), (8, SV.p 4 0), (7, SV.v (Value.int IntKind.i64 0)), (6, SV.p 3 0), (5, SV.p 2 0), (4, SV.p 1 0), (3, SV.p 0 0)] (stT a b m N x ((i : Int) - 1)).tm := by
    intro z hz x
    subst hz
    exact ⟨rfl, rfl, rfl, rfl, rfl, rfl, rfl, rfl, rfl, trivial⟩
  have hH : ∀ (x : Nat) (c c2 : List SV), c = ec x → RenH [0,1,2,3,4,5,6,7,8] [.cells (ec a) 24, .cells (ec b) 24, .cells (ec m) 24, .cells (ec 0) 24, .cells (ec 0) 24, .gone, .row 3 1 256 (mapv (hvs (bl (nb b 256)))), .row 3 1 512 (mapv (hvs (bl (nb N 512)))), .cells c 24, .cells c2 24] (stT a b m N x ((i : Int) - 1)).heap [0,1,2,3,4,5,6,7,8] := by
    intro x c c2 hc
    subst hc
    exact ⟨rfl, rfl, rfl, rfl, rfl, rfl, ren_row _ _ _ _ _, ren_row _ _ _ _ _, rfl, trivial⟩
  refine xgo_trim hm (F0.mono w) hfin 20 _ _ _ _ _ _ (rremRound a b m N r v M i kt) (paidCons (fun has => ⟨?_, ?_⟩) (paidCons (fun has => ⟨?_, ?_⟩) (paidCons (fun has => ⟨?_, ?_⟩) (paidCons (fun has => ⟨?_, ?_⟩) (paidCons (fun has => ⟨?_, ?_⟩) (paidCons (fun has => ⟨?_, ?_⟩) paidNil))))))
  all_goals simp only [List.mem_cons, List.not_mem_nil, or_false, forall_eq_or_imp, forall_eq, en, em, e2, odN_eq] at has
  case refine_1 | refine_3 | refine_5 | refine_7 | refine_9 | refine_11 =>
    simp only [hold_cons, hold_nil, and_true, en, em, e2, odN_eq, odE_eq, el_mod]
    repeat' apply And.intro
    all_goals (intro _ _; first | exact True.intro | omega | exact nb_row2_pos N | exact rv | exact has.1 | exact has.2 | exact has.2.1 | exact has.2.2 | exact ⟨trivial, hrt⟩ | exact ⟨trivial, trivial, Nat.mod_lt _ top_pos, hmt⟩ | exact decide_eq_true (by omega) | skip)
  all_goals first
    | (have hv1 : v = 1 := by
         have h1 := has.1
         simp only [beq_iff_eq] at h1
         omega)
    | (have hv1 : v = 0 := by
         have h1 := has.1
         simp only [beq_eq_false_iff_ne, ne_eq] at h1
         omega)
  all_goals subst hv1
  · have h2 : ¬ 2 * r < top := by have := of_decide_eq_true has.2; omega
    exact key ((2 * r + 1) % top + top - m) _ _ (arithA r m 1 hr hmt (by omega) h2) (hT _ hwp _) (hH _ _ _ (by rw [en, em, odN_eq]))
  · have h2 : 2 * r < top := by have := of_decide_eq_false has.2.1; omega
    have h3 : ¬ (2 * r + 1) % top < m := by simpa using has.2.2
    exact key ((2 * r + 1) % top + top - m) _ _ (arithB r m 1 hr (by omega) h2 h3) (hT _ hwp _) (hH _ _ _ (by rw [en, em, odN_eq]))
  · have h2 : 2 * r < top := by have := of_decide_eq_false has.2.1; omega
    have h3 : (2 * r + 1) % top < m := by simpa using has.2.2
    exact key ((2 * r + 1) % top) _ _ ((Nat.mod_mod _ _).trans (arithC r m 1 (by omega) h2 h3)) (hT _ hwp _) (hH _ _ _ (by rw [en, odC_eq]; rfl))
  · have h2 : ¬ 2 * r < top := by have := of_decide_eq_true has.2; omega
    exact key ((2 * r + 0) % top + top - m) _ _ (arithA r m 0 hr hmt (by omega) h2) (hT _ hwp _) (hH _ _ _ (by rw [en, em, e2, Nat.add_zero]))
  · have h2 : 2 * r < top := by have := of_decide_eq_false has.2.1; omega
    have h3 : ¬ (2 * r + 0) % top < m := by simpa using has.2.2
    exact key ((2 * r + 0) % top + top - m) _ _ (arithB r m 0 hr (by omega) h2 h3) (hT _ hwp _) (hH _ _ _ (by rw [en, em, e2, Nat.add_zero]))
  · have h2 : 2 * r < top := by have := of_decide_eq_false has.2.1; omega
    have h3 : (2 * r + 0) % top < m := by simpa using has.2.2
    exact key (2 * r) _ _ (arithC r m 0 (by omega) h2 h3) (hT _ hwp _) (hH _ _ _ (by rw [en]))
theorem rrem_loop {w : World} (a b m N : Nat) (hmt : m < top) : ∀ (k r : Nat), k ≤ 512 → r < m → (r * 2 ^ k + N % 2 ^ k) % m = N % m →
    Ok Try.prog (bodyOf Try.f21) 56 (F0 w) w (bodyPost Try.prog Try.f21 fun E w' => ∃ v r, E = .returned v ∧ r = Res.v (.tuple #[el (N % m), .int .i64 0]) ∧ r.ok w w' v ∧ Below w.heap.size w w') (.rnd qT (k + 2) :: [.blk 0, .at [1,1,1,1,1,1,1]]) (stT a b m N r ((k : Int) - 1))
  | 0, r, _, hr, he => by
    have he2 : r = N % m := by
      rw [Nat.pow_zero, Nat.mul_one, Nat.mod_one, Nat.add_zero, Nat.mod_eq_of_lt hr] at he
      exact he
    subst he2
    refine Ok.rnd (ok_plain hm (F0.mono w) (fun _ h => h) 30 _ _ _ _ (rremEnd a b m N _ _) ⟨fun _ => ⟨?_, rfl⟩, trivial⟩)
    simp only [hold_cons, hold_nil, and_true]
    exact ⟨fun _ _ => decide_eq_false (by omega), fun _ _ => by omega⟩
  | k + 1, r, hk, hr, he => by
    have h1 : (((k + 1 : Nat) : Int) - 1) = (k : Int) := by omega
    rw [h1]
    have hmp : 0 < m := by omega
    exact Ok.rnd (rrem_round finB a b m N r k (k + 1) _ (by omega) hmt hr (rrem_loop a b m N hmt k _ (by omega) (Nat.mod_lt _ hmp) (by rw [nb_step]; exact he)))
theorem nb_join (a b : Nat) (ha : a < top) : mapv (hvs (bl (nb a (256 : Nat)))) ++ mapv (hvs (bl (nb b (256 : Nat)))) = mapv (hvs (bl (nb (b * top + a) 512))) := by
  have h1 := nb_add (b * top + a) 256 256
  have h2 : nb (b * top + a) 256 = nb a 256 := by
    rw [← nb_mod (b * top + a) 256 256 (Nat.le_refl _), pow256, Nat.mul_comm, Nat.mul_add_mod, Nat.mod_eq_of_lt ha]
  have h3 : (b * top + a) / 2 ^ 256 = b := by
    rw [pow256, Nat.mul_comm, Nat.mul_add_div top_pos, Nat.div_eq_of_lt ha, Nat.add_zero]
  rw [h2, h3] at h1
  rw [hvs_eq, hvs_eq, hvs_eq, h1]
  simp [mapv, bl]
theorem start_eq (N m k : Nat) (h : N < 2 ^ k) : (0 * 2 ^ k + N % 2 ^ k) % m = N % m := by
  rw [Nat.zero_mul, Nat.zero_add, Nat.mod_eq_of_lt h]
theorem rrem_from {w : World} (a b m N : Nat) (hmt : m < top) (hmp : 0 < m) (K : Nat) (hK : K ≤ 512) (hN : N < 2 ^ K) :
    Ok Try.prog (bodyOf Try.f21) 56 (F0 w) w (bodyPost Try.prog Try.f21 fun E w' => ∃ v r, E = .returned v ∧ r = Res.v (.tuple #[el (N % m), .int .i64 0]) ∧ r.ok w w' v ∧ Below w.heap.size w w') (.rnd qT (K + 2) :: [.blk 0, .at [1,1,1,1,1,1,1]]) (stT a b m N 0 ((K : Int) - 1)) :=
  rrem_loop a b m N hmt K 0 hK hmp (start_eq N m K hN)
theorem rrem_ok (a b m : Nat) (ha : a < top) (hb : b < top) (hmt : m < top) (w : World) : Calls Try.prog 21 [el a, el b, el m].toArray w (fun E w' => ∃ v, E = .returned v ∧ Res.ok w w' (.v (remV a b m)) v ∧ Below w.heap.size w w') := by
  refine con_end (calls_of_ok (B := bodyOf Try.f21) (n := 56) Try.func21 (by kernel_rfl) rfl rfl (F := F0 w) (fun _ _ h => h) ?_)
  have hF := F0.mono w
  refine xgo_trim hm hF finB 50 _ _ _ _ _ _ (rremStart a b m) (paidCons (fun has => ⟨?_, ?_⟩) (paidCons (fun has => ⟨?_, ?_⟩) paidNil))
  · have h0 := has _ List.mem_cons_self
    simp only [hold_cons, hold_nil, and_true]
    exact ⟨fun _ _ => by omega, fun _ _ => h0, fun _ _ => by omega⟩
  · have h0 := has _ List.mem_cons_self
    have hz : m = 0 := elL_isZero hmt (of_decide_eq_true h0)
    subst hz
    refine Ok.ret (.tup [.agg [.v (.int .u64 0), .v (.int .u64 0), .v (.int .u64 0), .v (.int .u64 0)], .v (.int .i64 10)]) rfl fun e w' S => ⟨_, _, rfl, rfl, ?_, below_of (fun _ h => h) S⟩
    show _ = remV a b 0
    simp only [remV, show Nat.beq 0 0 = true from rfl, cond_true, el_zero]
    rfl
  · have h0 := has _ List.mem_cons_self
    simp only [hold_cons, hold_nil, and_true, elN_eq ha, elN_eq hb]
    exact ⟨fun _ _ => by omega, fun _ _ => h0, fun _ _ => trivial, fun _ _ => trivial, fun _ _ => ⟨by omega, by omega⟩, fun _ _ => by omega⟩
  · have h0 := has _ List.mem_cons_self
    have hz : m ≠ 0 := by
      intro hz
      subst hz
      rw [elL_zero] at h0
      simp at h0
    have hmp : 0 < m := Nat.pos_of_ne_zero hz
    have hbz : Nat.beq m 0 = false := by
      cases m with
      | zero => exact absurd rfl hz
      | succ k => rfl
    have hN : b * top + a < 2 ^ 512 := by
      refine Nat.lt_of_lt_of_le ?_ (top_sq 512 (Nat.le_refl _))
      have h2 : (b + 1) * top ≤ top * top := Nat.mul_le_mul_right _ hb
      rw [Nat.add_mul, Nat.one_mul] at h2
      omega
    have hmain := rrem_from (w := w) a b m (b * top + a) hmt hmp 512 (Nat.le_refl _) hN
    have hres : remV a b m = .tuple #[el ((b * top + a) % m), .int .i64 0] := by simp only [remV, hbz, cond_false]
    rw [hres]
    refine ok_mono (st := stT a b m (b * top + a) 0 511) ?_ (Ok.loop 514 (by kernel_rfl) hmain)
    simp only [stT, elN_eq ha, elN_eq hb, nb_join a b ha, ec_zero]
end Go.Proofs.Ytcipmpamhffclaa

namespace Go.Pl
noncomputable def rmN (a b m : Nat) : Nat := hide (if m = 0 then 0 else (b * top + a) % m)
noncomputable def rmE (m : Nat) : Nat := hide (if m = 0 then 10 else 0)
end Go.Pl
namespace Go.Proofs.Ytcipmpamhffclaa
open Go.Sx Go.Pl Go.RowKit
theorem remV_eq (a b m : Nat) : remV a b m = .tuple #[el (rmN a b m), .int .i64 ((rmE m : Nat) : Int)] := by
  rw [rmN, rmE, hide_eq, hide_eq]
  by_cases h : m = 0
  · subst h
    rw [if_pos rfl, if_pos rfl]
    rfl
  · have hb : Nat.beq m 0 = false := by
      cases m with
      | zero => exact absurd rfl h
      | succ k => rfl
    rw [if_neg h, if_neg h]
    simp only [remV, hb, cond_false]
    rfl
theorem gRRem_ok (rvs : List RV) (r : Res) (p : Prop) (vs : List Value) (w : World) (hg : gRem rvs = some (r, p)) (hp : p) (hv : RVs (wmem w) rvs vs) : Calls Try.prog 21 vs.toArray w (fun E w' => ∃ v, E = .returned v ∧ r.ok w w' v ∧ Below w.heap.size w w') := by
  unfold gRem at hg
  split at hg
  · split at hg
    · simp only [Option.some.injEq, Prod.mk.injEq] at hg
      obtain ⟨rfl, rfl⟩ := hg
      obtain ⟨h1, h2, h3, h4, h5, h6⟩ := hp
      rw [rvs3 hv, h1, h2, h3]
      exact rrem_ok _ _ _ h4 h5 h6 w
    · cases hg
  · cases hg
noncomputable def CK : Con Try.prog := CJ.add 21 gRem gRRem_ok
end Go.Proofs.Ytcipmpamhffclaa
