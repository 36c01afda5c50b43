/- Products of numbers: the whole. -/
import Derived.Test.YtcipmpamhffclaaV3
namespace Go.Pl
theorem nat_kHi (x y w : Nat) (c : Int) : ((kHi x y w c).toNat : Int) = kHi x y w c := Int.toNat_of_nonneg (kHi_nonneg x y w c)
theorem mul_nv (x b0 b1 b2 b3 : Nat) : x * nv b0 b1 b2 b3 = x * b0 + 18446744073709551616 * (x * b1) + 340282366920938463463374607431768211456 * (x * b2) + 6277101735386680763835789423207666416102355444464034512896 * (x * b3) := by
  simp only [nv, Nat.mul_add, Nat.mul_left_comm x]
theorem nv_mul (q a0 a1 a2 a3 : Nat) : nv a0 a1 a2 a3 * q = a0 * q + 18446744073709551616 * (a1 * q) + 340282366920938463463374607431768211456 * (a2 * q) + 6277101735386680763835789423207666416102355444464034512896 * (a3 * q) := by
  simp only [nv, Nat.add_mul, Nat.mul_assoc]
/-- A row of the product. -/
theorem row_num (x b0 b1 b2 b3 w0 w1 w2 w3 : Nat) (hx : x < 18446744073709551616) (h0 : b0 < 18446744073709551616) (h1 : b1 < 18446744073709551616) (h2 : b2 < 18446744073709551616) (h3 : b3 < 18446744073709551616)
    (v0 : w0 < 18446744073709551616) (v1 : w1 < 18446744073709551616) (v2 : w2 < 18446744073709551616) (v3 : w3 < 18446744073709551616) :
    ∃ l0 l1 l2 l3 c : Nat, l0 = kLo x b0 w0 0 ∧ l1 = kLo x b1 w1 (kHi x b0 w0 0) ∧ l2 = kLo x b2 w2 (kHi x b1 w1 (kHi x b0 w0 0)) ∧ l3 = kLo x b3 w3 (kHi x b2 w2 (kHi x b1 w1 (kHi x b0 w0 0))) ∧
      c = (kHi x b3 w3 (kHi x b2 w2 (kHi x b1 w1 (kHi x b0 w0 0)))).toNat ∧
      l0 < 18446744073709551616 ∧ l1 < 18446744073709551616 ∧ l2 < 18446744073709551616 ∧ l3 < 18446744073709551616 ∧ c < 18446744073709551616 ∧
      x * nv b0 b1 b2 b3 + nv w0 w1 w2 w3 = nv l0 l1 l2 l3 + 115792089237316195423570985008687907853269984665640564039457584007913129639936 * c := by
  have n0 := kHi_nonneg x b0 w0 0
  obtain ⟨e0, u0, t0⟩ := k_eq x b0 w0 0 hx h0 v0 (by omega) (by omega)
  have n1 := kHi_nonneg x b1 w1 (kHi x b0 w0 0)
  obtain ⟨e1, u1, t1⟩ := k_eq x b1 w1 (kHi x b0 w0 0) hx h1 v1 n0 t0
  have n2 := kHi_nonneg x b2 w2 (kHi x b1 w1 (kHi x b0 w0 0))
  obtain ⟨e2, u2, t2⟩ := k_eq x b2 w2 (kHi x b1 w1 (kHi x b0 w0 0)) hx h2 v2 n1 t1
  have n3 := kHi_nonneg x b3 w3 (kHi x b2 w2 (kHi x b1 w1 (kHi x b0 w0 0)))
  obtain ⟨e3, u3, t3⟩ := k_eq x b3 w3 (kHi x b2 w2 (kHi x b1 w1 (kHi x b0 w0 0))) hx h3 v3 n2 t2
  refine ⟨_, _, _, _, _, rfl, rfl, rfl, rfl, rfl, u0, u1, u2, u3, by omega, ?_⟩
  rw [mul_nv]
  simp only [nv]
  generalize kLo x b3 w3 (kHi x b2 w2 (kHi x b1 w1 (kHi x b0 w0 0))) = l3 at *
  generalize kHi x b3 w3 (kHi x b2 w2 (kHi x b1 w1 (kHi x b0 w0 0))) = c3 at *
  generalize kLo x b2 w2 (kHi x b1 w1 (kHi x b0 w0 0)) = l2 at *
  generalize kHi x b2 w2 (kHi x b1 w1 (kHi x b0 w0 0)) = c2 at *
  generalize kLo x b1 w1 (kHi x b0 w0 0) = l1 at *
  generalize kHi x b1 w1 (kHi x b0 w0 0) = c1 at *
  generalize kLo x b0 w0 0 = l0 at *
  generalize kHi x b0 w0 0 = c0 at *
  generalize x * b0 = p0 at *
  generalize x * b1 = p1 at *
  generalize x * b2 = p2 at *
  generalize x * b3 = p3 at *
  simp only [Int.toNat_zero, Nat.add_zero] at e0
  omega
end Go.Pl
namespace Go.Proofs.Ytcipmpamhffclaa
open Go.Sx Go.Pl Go.RowKit
theorem mul_row0 {w0' : World} {fin : Exit → Act → World → Prop} (hfin : ∀ c (a : Act) (d : Option Tmp) (v : Value) (w : World), fin (.panic c) (a.put d v) w → fin (.panic c) a w)
    (a b w0 w1 w2 w3 w4 w5 w6 w7 M : Nat) (kt : List It) (next : Ok Try.prog (bodyOf Try.f18) 69 (F0 w0') w0' fin (.rnd qM (M + 1) :: kt) (stM a b 1 (kLo (limb a 0) (limb b 0) w0 0) (kLo (limb a 0) (limb b 1) w1 (kHi (limb a 0) (limb b 0) w0 0)) (kLo (limb a 0) (limb b 2) w2 (kHi (limb a 0) (limb b 1) w1 (kHi (limb a 0) (limb b 0) w0 0))) (kLo (limb a 0) (limb b 3) w3 (kHi (limb a 0) (limb b 2) w2 (kHi (limb a 0) (limb b 1) w1 (kHi (limb a 0) (limb b 0) w0 0)))) (kHi (limb a 0) (limb b 3) w3 (kHi (limb a 0) (limb b 2) w2 (kHi (limb a 0) (limb b 1) w1 (kHi (limb a 0) (limb b 0) w0 0)))).toNat w5 w6 w7)) :
    Ok Try.prog (bodyOf Try.f18) 69 (F0 w0') w0' fin (.at qM :: .rnd qM (M + 1) :: kt) (stM a b 0 w0 w1 w2 w3 w4 w5 w6 w7) := by
  refine xgo_trim hm (F0.mono w0') hfin 50 _ _ _ _ _ _ (mulRow0 a b w0 w1 w2 w3 w4 w5 w6 w7 M kt) (paidCons (fun _ => ⟨?_, ?_⟩) paidNil)
  · simp only [hold_cons, hold_nil, and_true, Int.toNat_natCast]
    repeat' apply And.intro
    all_goals (intro _ _; first | trivial | exact ⟨trivial, trivial, limb_lt _ _, limb_lt _ _⟩ | exact ⟨rfl, rfl, limb_lt _ _, limb_lt _ _⟩ | exact ⟨Int.natCast_nonneg _, Int.natCast_nonneg _, by omega, by omega⟩ | exact ⟨Int.natCast_nonneg _, kHi_nonneg _ _ _ _, by omega, by omega⟩ | omega)
  · refine ok_mono ?_ next
    simp only [stM, nat_kHi]
    rfl
theorem mul_row1 {w0' : World} {fin : Exit → Act → World → Prop} (hfin : ∀ c (a : Act) (d : Option Tmp) (v : Value) (w : World), fin (.panic c) (a.put d v) w → fin (.panic c) a w)
    (a b w0 w1 w2 w3 w4 w5 w6 w7 M : Nat) (kt : List It) (next : Ok Try.prog (bodyOf Try.f18) 69 (F0 w0') w0' fin (.rnd qM (M + 1) :: kt) (stM a b 2 w0 (kLo (limb a 1) (limb b 0) w1 0) (kLo (limb a 1) (limb b 1) w2 (kHi (limb a 1) (limb b 0) w1 0)) (kLo (limb a 1) (limb b 2) w3 (kHi (limb a 1) (limb b 1) w2 (kHi (limb a 1) (limb b 0) w1 0))) (kLo (limb a 1) (limb b 3) w4 (kHi (limb a 1) (limb b 2) w3 (kHi (limb a 1) (limb b 1) w2 (kHi (limb a 1) (limb b 0) w1 0)))) (kHi (limb a 1) (limb b 3) w4 (kHi (limb a 1) (limb b 2) w3 (kHi (limb a 1) (limb b 1) w2 (kHi (limb a 1) (limb b 0) w1 0)))).toNat w6 w7)) :
    Ok Try.prog (bodyOf Try.f18) 69 (F0 w0') w0' fin (.at qM :: .rnd qM (M + 1) :: kt) (stM a b 1 w0 w1 w2 w3 w4 w5 w6 w7) := by
  refine xgo_trim hm (F0.mono w0') hfin 50 _ _ _ _ _ _ (mulRow1 a b w0 w1 w2 w3 w4 w5 w6 w7 M kt) (paidCons (fun _ => ⟨?_, ?_⟩) paidNil)
  · simp only [hold_cons, hold_nil, and_true, Int.toNat_natCast]
    repeat' apply And.intro
    all_goals (intro _ _; first | trivial | exact ⟨trivial, trivial, limb_lt _ _, limb_lt _ _⟩ | exact ⟨rfl, rfl, limb_lt _ _, limb_lt _ _⟩ | exact ⟨Int.natCast_nonneg _, Int.natCast_nonneg _, by omega, by omega⟩ | exact ⟨Int.natCast_nonneg _, kHi_nonneg _ _ _ _, by omega, by omega⟩ | omega)
  · refine ok_mono ?_ next
    simp only [stM, nat_kHi]
    rfl
theorem mul_row2 {w0' : World} {fin : Exit → Act → World → Prop} (hfin : ∀ c (a : Act) (d : Option Tmp) (v : Value) (w : World), fin (.panic c) (a.put d v) w → fin (.panic c) a w)
    (a b w0 w1 w2 w3 w4 w5 w6 w7 M : Nat) (kt : List It) (next : Ok Try.prog (bodyOf Try.f18) 69 (F0 w0') w0' fin (.rnd qM (M + 1) :: kt) (stM a b 3 w0 w1 (kLo (limb a 2) (limb b 0) w2 0) (kLo (limb a 2) (limb b 1) w3 (kHi (limb a 2) (limb b 0) w2 0)) (kLo (limb a 2) (limb b 2) w4 (kHi (limb a 2) (limb b 1) w3 (kHi (limb a 2) (limb b 0) w2 0))) (kLo (limb a 2) (limb b 3) w5 (kHi (limb a 2) (limb b 2) w4 (kHi (limb a 2) (limb b 1) w3 (kHi (limb a 2) (limb b 0) w2 0)))) (kHi (limb a 2) (limb b 3) w5 (kHi (limb a 2) (limb b 2) w4 (kHi (limb a 2) (limb b 1) w3 (kHi (limb a 2) (limb b 0) w2 0)))).toNat w7)) :
    Ok Try.prog (bodyOf Try.f18) 69 (F0 w0') w0' fin (.at qM :: .rnd qM (M + 1) :: kt) (stM a b 2 w0 w1 w2 w3 w4 w5 w6 w7) := by
  refine xgo_trim hm (F0.mono w0') hfin 50 _ _ _ _ _ _ (mulRow2 a b w0 w1 w2 w3 w4 w5 w6 w7 M kt) (paidCons (fun _ => ⟨?_, ?_⟩) paidNil)
  · simp only [hold_cons, hold_nil, and_true, Int.toNat_natCast]
    repeat' apply And.intro
    all_goals (intro _ _; first | trivial | exact ⟨trivial, trivial, limb_lt _ _, limb_lt _ _⟩ | exact ⟨rfl, rfl, limb_lt _ _, limb_lt _ _⟩ | exact ⟨Int.natCast_nonneg _, Int.natCast_nonneg _, by omega, by omega⟩ | exact ⟨Int.natCast_nonneg _, kHi_nonneg _ _ _ _, by omega, by omega⟩ | omega)
  · refine ok_mono ?_ next
    simp only [stM, nat_kHi]
    rfl
theorem mul_row3 {w0' : World} {fin : Exit → Act → World → Prop} (hfin : ∀ c (a : Act) (d : Option Tmp) (v : Value) (w : World), fin (.panic c) (a.put d v) w → fin (.panic c) a w)
    (a b w0 w1 w2 w3 w4 w5 w6 w7 M : Nat) (kt : List It) (next : Ok Try.prog (bodyOf Try.f18) 69 (F0 w0') w0' fin (.rnd qM (M + 1) :: kt) (stM a b 4 w0 w1 w2 (kLo (limb a 3) (limb b 0) w3 0) (kLo (limb a 3) (limb b 1) w4 (kHi (limb a 3) (limb b 0) w3 0)) (kLo (limb a 3) (limb b 2) w5 (kHi (limb a 3) (limb b 1) w4 (kHi (limb a 3) (limb b 0) w3 0))) (kLo (limb a 3) (limb b 3) w6 (kHi (limb a 3) (limb b 2) w5 (kHi (limb a 3) (limb b 1) w4 (kHi (limb a 3) (limb b 0) w3 0)))) (kHi (limb a 3) (limb b 3) w6 (kHi (limb a 3) (limb b 2) w5 (kHi (limb a 3) (limb b 1) w4 (kHi (limb a 3) (limb b 0) w3 0)))).toNat)) :
    Ok Try.prog (bodyOf Try.f18) 69 (F0 w0') w0' fin (.at qM :: .rnd qM (M + 1) :: kt) (stM a b 3 w0 w1 w2 w3 w4 w5 w6 w7) := by
  refine xgo_trim hm (F0.mono w0') hfin 50 _ _ _ _ _ _ (mulRow3 a b w0 w1 w2 w3 w4 w5 w6 w7 M kt) (paidCons (fun _ => ⟨?_, ?_⟩) paidNil)
  · simp only [hold_cons, hold_nil, and_true, Int.toNat_natCast]
    repeat' apply And.intro
    all_goals (intro _ _; first | trivial | exact ⟨trivial, trivial, limb_lt _ _, limb_lt _ _⟩ | exact ⟨rfl, rfl, limb_lt _ _, limb_lt _ _⟩ | exact ⟨Int.natCast_nonneg _, Int.natCast_nonneg _, by omega, by omega⟩ | exact ⟨Int.natCast_nonneg _, kHi_nonneg _ _ _ _, by omega, by omega⟩ | omega)
  · refine ok_mono ?_ next
    simp only [stM, nat_kHi]
    rfl
theorem mulStart (a b : Nat) : ((xgo Try.prog X (bodyOf Try.f18) 69 CF [] 50 [] (Tree.nil) [.at []] ⟨argsTm 0 [el a, el b], []⟩ [] []).map (trims [13, 6, 5, 4, 3, 2])) =
  some
  [Leaf2.mk [] []
      [It.at [(0 : Nat), (1 : Nat), (0 : Nat), (1 : Nat), (1 : Nat)], It.blk (0 : Nat),
        It.at [(1 : Nat), (1 : Nat), (1 : Nat)]]
      (St.mk
        [((13 : Nat), SV.v (Value.int IntKind.i64 (0 : Int))), ((6 : Nat), SV.p (4 : Nat) (0 : Nat)),
          ((5 : Nat), SV.p (3 : Nat) (0 : Nat)), ((4 : Nat), SV.p (2 : Nat) (0 : Nat)),
          ((3 : Nat), SV.p (1 : Nat) (0 : Nat)), ((2 : Nat), SV.p (0 : Nat) (0 : Nat))]
        [HO.cells
            [SV.v (Value.int IntKind.u64 (↑(limb a (0 : Nat)) : Int)),
              SV.v (Value.int IntKind.u64 (↑(limb a (1 : Nat)) : Int)),
              SV.v (Value.int IntKind.u64 (↑(limb a (2 : Nat)) : Int)),
              SV.v (Value.int IntKind.u64 (↑(limb a (3 : Nat)) : Int))]
            (24 : Nat),
          HO.cells
            [SV.v (Value.int IntKind.u64 (↑(limb b (0 : Nat)) : Int)),
              SV.v (Value.int IntKind.u64 (↑(limb b (1 : Nat)) : Int)),
              SV.v (Value.int IntKind.u64 (↑(limb b (2 : Nat)) : Int)),
              SV.v (Value.int IntKind.u64 (↑(limb b (3 : Nat)) : Int))]
            (24 : Nat),
          HO.cells
            [SV.v (Value.int IntKind.u64 (0 : Int)), SV.v (Value.int IntKind.u64 (0 : Int)),
              SV.v (Value.int IntKind.u64 (0 : Int)), SV.v (Value.int IntKind.u64 (0 : Int))]
            (24 : Nat),
          HO.cells
            [SV.v (Value.int IntKind.u64 (0 : Int)), SV.v (Value.int IntKind.u64 (0 : Int)),
              SV.v (Value.int IntKind.u64 (0 : Int)), SV.v (Value.int IntKind.u64 (0 : Int))]
            (24 : Nat),
          HO.cells
            [SV.v (Value.int IntKind.u64 (0 : Int)), SV.v (Value.int IntKind.u64 (0 : Int)),
              SV.v (Value.int IntKind.u64 (0 : Int)), SV.v (Value.int IntKind.u64 (0 : Int)),
              SV.v (Value.int IntKind.u64 (0 : Int)), SV.v (Value.int IntKind.u64 (0 : Int)),
              SV.v (Value.int IntKind.u64 (0 : Int)), SV.v (Value.int IntKind.u64 (0 : Int))]
            (48 : Nat)])]
 := by kernel_rfl

theorem mulEnd (a b w0 w1 w2 w3 w4 w5 w6 w7 : Nat) : (((xgo Try.prog X (bodyOf Try.f18) 69 CF [] 50 [Dec.f] (Tree.nil) [.at qM, .rnd qM 0, .blk 0, .at [1,1,1]] (stM a b 4 w0 w1 w2 w3 w4 w5 w6 w7) [] []).bind (ends Try.prog Try.f18.results.toList)).bind plainE) =
  some
  [EndP.mk []
      [fun _ => false = false, fun _ => (0 : Int) ≤ (4 : Int) ∧ (4 : Int) ≤ (8 : Int), fun _ => (4 : Nat) ≤ (4 : Nat),
        fun _ => (0 : Int) ≤ (4 : Int) ∧ (4 : Int) ≤ (8 : Int), fun _ => (4 : Nat) ≤ (4 : Nat), fun _ =>
        (0 : Nat) + (4 : Nat) ≤ (4 : Nat), fun _ => (0 : Nat) + (4 : Nat) ≤ (4 : Nat)]
      (Res.v
        (Value.tuple
          (Array.mk
            [Value.agg
                (Array.mk
                  [Value.int IntKind.u64 (↑w0 : Int), Value.int IntKind.u64 (↑w1 : Int),
                    Value.int IntKind.u64 (↑w2 : Int), Value.int IntKind.u64 (↑w3 : Int)]),
              Value.agg
                (Array.mk
                  [Value.int IntKind.u64 (↑w4 : Int), Value.int IntKind.u64 (↑w5 : Int),
                    Value.int IntKind.u64 (↑w6 : Int), Value.int IntKind.u64 (↑w7 : Int)])]))),
    EndP.mk []
      [fun _ => false = false, fun _ => (0 : Int) ≤ (4 : Int) ∧ (4 : Int) ≤ (8 : Int), fun _ => (4 : Nat) ≤ (4 : Nat),
        fun _ => (0 : Int) ≤ (4 : Int) ∧ (4 : Int) ≤ (8 : Int), fun _ => (4 : Nat) ≤ (4 : Nat), fun _ =>
        (0 : Nat) + (4 : Nat) ≤ (4 : Nat), fun _ => (0 : Nat) + (4 : Nat) ≤ (4 : Nat)]
      (Res.v
        (Value.tuple
          (Array.mk
            [Value.agg
                (Array.mk
                  [Value.int IntKind.u64 (↑w0 : Int), Value.int IntKind.u64 (↑w1 : Int),
                    Value.int IntKind.u64 (↑w2 : Int), Value.int IntKind.u64 (↑w3 : Int)]),
              Value.agg
                (Array.mk
                  [Value.int IntKind.u64 (↑w4 : Int), Value.int IntKind.u64 (↑w5 : Int),
                    Value.int IntKind.u64 (↑w6 : Int), Value.int IntKind.u64 (↑w7 : Int)])]))),
    EndP.mk []
      [fun _ => false = false, fun _ => (0 : Int) ≤ (4 : Int) ∧ (4 : Int) ≤ (8 : Int), fun _ => (4 : Nat) ≤ (4 : Nat),
        fun _ => (0 : Int) ≤ (4 : Int) ∧ (4 : Int) ≤ (8 : Int), fun _ => (4 : Nat) ≤ (4 : Nat), fun _ =>
        (0 : Nat) + (4 : Nat) ≤ (4 : Nat), fun _ => (0 : Nat) + (4 : Nat) ≤ (4 : Nat)]
      (Res.v
        (Value.tuple
          (Array.mk
            [Value.agg
                (Array.mk
                  [Value.int IntKind.u64 (↑w0 : Int), Value.int IntKind.u64 (↑w1 : Int),
                    Value.int IntKind.u64 (↑w2 : Int), Value.int IntKind.u64 (↑w3 : Int)]),
              Value.agg
                (Array.mk
                  [Value.int IntKind.u64 (↑w4 : Int), Value.int IntKind.u64 (↑w5 : Int),
                    Value.int IntKind.u64 (↑w6 : Int), Value.int IntKind.u64 (↑w7 : Int)])])))]
 := by kernel_rfl

theorem mul_ok (a b : Nat) (ha : a < top) (hb : b < top) (w : World) : Calls Try.prog 18 [el a, el b].toArray w (fun E w' => ∃ v, E = .returned v ∧ Res.ok w w' (.v (.tuple #[el (a * b % top), el (a * b / top)])) v ∧ Below w.heap.size w w') := by
  refine con_end (calls_of_ok (B := bodyOf Try.f18) (n := 69) Try.func18 (by kernel_rfl) rfl rfl (F := F0 w) (fun _ _ h => h) ?_)
  have hF := F0.mono w
  refine xgo_trim hm hF finB 50 _ _ _ _ _ _ (mulStart a b) (paidCons (fun _ => ⟨?_, ?_⟩) paidNil)
  · simp only [hold_nil]
  · have hz : (stM a b 0 0 0 0 0 0 0 0 0) = stM a b 0 0 0 0 0 0 0 0 0 := rfl
    have a0 := limb_lt a 0; have a1 := limb_lt a 1; have a2 := limb_lt a 2; have a3 := limb_lt a 3
    have b0 := limb_lt b 0; have b1 := limb_lt b 1; have b2 := limb_lt b 2; have b3 := limb_lt b 3
    obtain ⟨p0, p1, p2, p3, p4, q0, q1, q2, q3, q4, r0, r1, r2, r3, r4, E0⟩ := row_num (limb a 0) (limb b 0) (limb b 1) (limb b 2) (limb b 3) 0 0 0 0 a0 b0 b1 b2 b3 (by omega) (by omega) (by omega) (by omega)
    obtain ⟨p1', p2', p3', p4', p5, q1', q2', q3', q4', q5, r1', r2', r3', r4', r5, E1⟩ := row_num (limb a 1) (limb b 0) (limb b 1) (limb b 2) (limb b 3) p1 p2 p3 p4 a1 b0 b1 b2 b3 r1 r2 r3 r4
    obtain ⟨s2, s3, s4, s5, s6, t2, t3, t4, t5, t6, v2, v3, v4, v5, v6, E2⟩ := row_num (limb a 2) (limb b 0) (limb b 1) (limb b 2) (limb b 3) p2' p3' p4' p5 a2 b0 b1 b2 b3 r2' r3' r4' r5
    obtain ⟨m3, m4, m5, m6, m7, n3, n4, n5, n6, n7, o3, o4, o5, o6, o7, E3⟩ := row_num (limb a 3) (limb b 0) (limb b 1) (limb b 2) (limb b 3) s3 s4 s5 s6 a3 b0 b1 b2 b3 v3 v4 v5 v6
    refine ok_mono (st := stM a b 0 0 0 0 0 0 0 0 0) ?_ (Ok.loop 5 (by kernel_rfl) (Ok.rnd (mul_row0 finB a b 0 0 0 0 0 0 0 0 3 _ (Ok.rnd ?_))))
    · simp only [stM, ec_zero]
      rfl
    rw [← q0, ← q1, ← q2, ← q3, ← q4]
    refine mul_row1 finB a b _ _ _ _ _ _ _ _ 2 _ (Ok.rnd ?_)
    rw [← q1', ← q2', ← q3', ← q4', ← q5]
    refine mul_row2 finB a b _ _ _ _ _ _ _ _ 1 _ (Ok.rnd ?_)
    rw [← t2, ← t3, ← t4, ← t5, ← t6]
    refine mul_row3 finB a b _ _ _ _ _ _ _ _ 0 _ (Ok.rnd ?_)
    rw [← n3, ← n4, ← n5, ← n6, ← n7]
    have hab : a * b = nv p0 p1' s2 m3 + top * nv m4 m5 m6 m7 := by
      have e1 : a = nv (limb a 0) (limb a 1) (limb a 2) (limb a 3) := (nv_self a ha).symm
      have e2 : b = nv (limb b 0) (limb b 1) (limb b 2) (limb b 3) := (nv_self b hb).symm
      rw [← e2] at E0 E1 E2 E3
      have e3 : a * b = nv (limb a 0) (limb a 1) (limb a 2) (limb a 3) * b := congrArg (· * b) e1
      rw [e3, nv_mul]
      generalize limb a 0 * b = P0 at *
      generalize limb a 1 * b = P1 at *
      generalize limb a 2 * b = P2 at *
      generalize limb a 3 * b = P3 at *
      simp only [nv, top] at *
      omega
    have hlo := nv_lt r0 r1' v2 o3
    have h1 : a * b % top = nv p0 p1' s2 m3 := by rw [hab, Nat.add_mul_mod_self_left, Nat.mod_eq_of_lt hlo]
    have h2 : a * b / top = nv m4 m5 m6 m7 := by rw [hab, Nat.add_mul_div_left _ _ top_pos, Nat.div_eq_of_lt hlo, Nat.zero_add]
    have h3 : Res.v (Value.tuple #[.agg #[.int .u64 (p0 : Int), .int .u64 (p1' : Int), .int .u64 (s2 : Int), .int .u64 (m3 : Int)], .agg #[.int .u64 (m4 : Int), .int .u64 (m5 : Int), .int .u64 (m6 : Int), .int .u64 (m7 : Int)]]) = Res.v (.tuple #[el (a * b % top), el (a * b / top)]) := by
      rw [h1, h2, el_nv r0 r1' v2 o3, el_nv o4 o5 o6 o7]
    refine ok_plain hm hF (fun _ h => h) 50 _ _ _ _ (mulEnd a b p0 p1' s2 m3 m4 m5 m6 m7) ⟨fun _ => ⟨?_, h3⟩, ⟨fun _ => ⟨?_, h3⟩, ⟨fun _ => ⟨?_, h3⟩, trivial⟩⟩⟩
    all_goals
      simp only [hold_cons, hold_nil, and_true]
      exact ⟨fun _ _ => trivial, fun _ _ => by omega, fun _ _ => by omega, fun _ _ => by omega, fun _ _ => by omega, fun _ _ => by omega, fun _ _ => by omega⟩
end Go.Proofs.Ytcipmpamhffclaa
