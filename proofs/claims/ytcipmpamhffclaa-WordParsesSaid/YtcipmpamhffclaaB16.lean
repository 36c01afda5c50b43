/- Bits to words, as the document has them: states. -/
import Derived.Test.YtcipmpamhffclaaB8
namespace Go.Proofs.Ytcipmpamhffclaa
open Go.Sx Go.Pl Go.RowKit
def qE : List Nat := [0,0,1,0,1,1]
noncomputable def stE (oa : Option Addr) (n c v : Nat) (i : Int) : St :=
  ⟨[(4, .v (.int .i64 i)), (3, .p 1 0), (2, .p 0 0), (0, .v (.slice oa n c))], [.cells (ec 0) 24, .cells (ec v) 24]⟩
end Go.Proofs.Ytcipmpamhffclaa

namespace Go.Pl
theorem or_bit (x t : Nat) (h : x % 2 ^ (t + 1) = 0) : x ||| 2 ^ t = x + 2 ^ t := by
  have h1 : x = 2 ^ (t + 1) * (x / 2 ^ (t + 1)) := by have := Nat.div_add_mod x (2 ^ (t + 1)); omega
  rw [h1, ← Nat.two_pow_add_eq_or_of_lt (Nat.pow_lt_pow_right (by omega) (by omega))]
/-- The word that gets the bit. -/
theorem limb_add_same (v i : Nat) (h : v % 2 ^ (i + 1) = 0) : limb (v + 2 ^ i) (i / 64) = limb v (i / 64) + 2 ^ (i % 64) ∧ limb v (i / 64) % 2 ^ (i % 64 + 1) = 0 := by
  have hi : i = 64 * (i / 64) + i % 64 := by omega
  have hlt : i % 64 < 64 := Nat.mod_lt _ (by omega)
  generalize i / 64 = k at *
  generalize i % 64 = t at *
  subst hi
  obtain ⟨q, hq⟩ : ∃ q, v = 2 ^ (64 * k + t + 1) * q := ⟨v / 2 ^ (64 * k + t + 1), by have := Nat.div_add_mod v (2 ^ (64 * k + t + 1)); omega⟩
  subst hq
  have e1 : 2 ^ (64 * k + t + 1) * q = 2 ^ (64 * k) * (2 ^ (t + 1) * q) := by rw [← Nat.mul_assoc, ← Nat.pow_add]; rfl
  have e2 : 2 ^ (64 * k + t) = 2 ^ (64 * k) * 2 ^ t := Nat.pow_add ..
  have hp : 0 < 2 ^ (64 * k) := Nat.two_pow_pos _
  have e3 : (2 : Nat) ^ 64 = 2 ^ (t + 1) * 2 ^ (63 - t) := by rw [← Nat.pow_add]; congr 1; omega
  rw [limb_eq, limb_eq, e1, e2, ← Nat.mul_add, Nat.mul_div_cancel_left _ hp, Nat.mul_div_cancel_left _ hp, e3, Nat.mul_mod_mul_left]
  constructor
  · have h1 : 2 ^ (t + 1) * q + 2 ^ t = 2 ^ t + 2 ^ (t + 1) * q := Nat.add_comm _ _
    rw [h1, Nat.mod_mul, Nat.add_mul_mod_self_left, Nat.add_mul_div_left _ _ (Nat.two_pow_pos _), Nat.mod_eq_of_lt (Nat.pow_lt_pow_right (by omega) (by omega)), Nat.div_eq_of_lt (Nat.pow_lt_pow_right (by omega) (by omega)), Nat.zero_add]
    omega
  · rw [Nat.mul_mod_right]
/-- The other words stay. -/
theorem limb_add_other (v i k : Nat) (h : v % 2 ^ (i + 1) = 0) (hk : k ≠ i / 64) : limb (v + 2 ^ i) k = limb v k := by
  obtain ⟨q, hq⟩ : ∃ q, v = 2 ^ (i + 1) * q := ⟨v / 2 ^ (i + 1), by have := Nat.div_add_mod v (2 ^ (i + 1)); omega⟩
  rw [limb_eq, limb_eq]
  rcases Nat.lt_or_gt_of_ne hk with hlt | hgt
  · -- below: both are multiples
    have h1 : 64 * k + 64 ≤ i := by omega
    obtain ⟨c, hc⟩ : ∃ c, i = 64 * k + 64 + c := ⟨i - (64 * k + 64), by omega⟩
    have e1 : v + 2 ^ i = 2 ^ (64 * k) * (2 ^ 64 * (2 ^ c * (2 * q + 1))) := by
      rw [hq, hc, Nat.pow_succ, Nat.pow_add, Nat.pow_add]
      generalize 2 ^ (64 * k) = A
      generalize 2 ^ c = C
      generalize (2 : Nat) ^ 64 = D
      simp [Nat.mul_add, Nat.mul_assoc]
    have e2 : v = 2 ^ (64 * k) * (2 ^ 64 * (2 ^ c * (2 * q))) := by
      rw [hq, hc, Nat.pow_succ, Nat.pow_add, Nat.pow_add]
      generalize 2 ^ (64 * k) = A
      generalize 2 ^ c = C
      generalize (2 : Nat) ^ 64 = D
      simp [Nat.mul_assoc]
    rw [e1, Nat.mul_div_cancel_left _ (Nat.two_pow_pos _), Nat.mul_mod_right]
    conv => rhs; rw [e2, Nat.mul_div_cancel_left _ (Nat.two_pow_pos _), Nat.mul_mod_right]
  · -- above: the quotient is the same
    have h1 : i + 1 ≤ 64 * k := by omega
    obtain ⟨c, hc⟩ : ∃ c, 64 * k = i + 1 + c := ⟨64 * k - (i + 1), by omega⟩
    have e1 : (v + 2 ^ i) / 2 ^ (i + 1) = q := by
      rw [hq, Nat.mul_add_div (Nat.two_pow_pos _), Nat.div_eq_of_lt (Nat.pow_lt_pow_right (by omega) (by omega)), Nat.add_zero]
    have e2 : v / 2 ^ (i + 1) = q := by rw [hq, Nat.mul_div_cancel_left _ (Nat.two_pow_pos _)]
    rw [hc, Nat.pow_add 2 (i + 1) c, ← Nat.div_div_eq_div_mul, ← Nat.div_div_eq_div_mul, e1, e2]
end Go.Pl

namespace Go.Proofs.Ytcipmpamhffclaa
open Go.Sx Go.Pl Go.RowKit
theorem ec_set (v i : Nat) (h : v % 2 ^ (i + 1) = 0) (hi : i < 256) : (ec v).set (i / 64) (.v (.int .u64 ((limb v (i / 64) ||| 2 ^ (i % 64) : Nat) : Int))) = ec (v + 2 ^ i) := by
  obtain ⟨h1, h2⟩ := limb_add_same v i h
  rw [or_bit _ _ h2, ← h1]
  have h4 : i / 64 = 0 ∨ i / 64 = 1 ∨ i / 64 = 2 ∨ i / 64 = 3 := by omega
  rcases h4 with hk | hk | hk | hk <;> rw [hk] <;> simp only [ec, List.set_cons_zero, List.set_cons_succ]
  · rw [limb_add_other v i 1 h (by omega), limb_add_other v i 2 h (by omega), limb_add_other v i 3 h (by omega)]
  · rw [limb_add_other v i 0 h (by omega), limb_add_other v i 2 h (by omega), limb_add_other v i 3 h (by omega)]
  · rw [limb_add_other v i 0 h (by omega), limb_add_other v i 1 h (by omega), limb_add_other v i 3 h (by omega)]
  · rw [limb_add_other v i 0 h (by omega), limb_add_other v i 1 h (by omega), limb_add_other v i 2 h (by omega)]
end Go.Proofs.Ytcipmpamhffclaa

namespace Go.Proofs.Ytcipmpamhffclaa
open Go.Sx Go.Pl Go.RowKit
theorem elemRound (oa : Option Addr) (n c v i b M : Nat) (kt : List It) : (xgo Try.prog X (bodyOf Try.f32) 32 CD [] 30 [.t] ((.br [.ld (.v (.int .i64 (b : Int)))] (.br [.lo 1 (.v (.int .u64 (limb v (i / 64))))] .nil [] .nil) [.f] .nil)) (.at qE :: .rnd qE (M + 1) :: kt) (stE oa n c v (i : Int)) [] []) =
  some
  [Leaf2.mk [decide ((↑i : Int) < (↑n : Int)) = true, ((↑b : Int) == (1 : Int)) = true]
      [fun _ => decide ((0 : Int) ≤ (↑i : Int)) = true, fun _ => decide ((↑i : Int) < (↑n : Int)) = true, fun _ =>
        (0 : Int) ≤ (↑i : Int) ∧ (↑i : Int) < (↑n : Int), fun _ =>
        (match oa with
          | some _ => true
          | none => false) =
          true,
        fun M =>
        MCells (fun a => M a)
          (match oa with
          | some x =>
            some
              (if Int.toNat (↑i : Int) * (1 : Nat) = (0 : Nat) then x
              else Addr.mk x.1 (x.2 + Int.toNat (↑i : Int) * (1 : Nat)) none)
          | none => none)
          [Value.int IntKind.i64 (↑b : Int)],
        fun _ => ((↑b : Int) == (1 : Int)) = true, fun _ => ¬(64 : Int) = (0 : Int), fun _ =>
        (0 : Int) ≤ IntKind.wrap IntKind.i64 (Int.tdiv (↑i : Int) (64 : Int)) ∧
          IntKind.wrap IntKind.i64 (Int.tdiv (↑i : Int) (64 : Int)) < (4 : Int),
        fun _ =>
        [SV.v (Value.int IntKind.u64 (↑(limb v (0 : Nat)) : Int)),
              SV.v (Value.int IntKind.u64 (↑(limb v (1 : Nat)) : Int)),
              SV.v (Value.int IntKind.u64 (↑(limb v (2 : Nat)) : Int)),
              SV.v
                (Value.int IntKind.u64
                  (↑(limb v (3 : Nat)) :
                    Int))][(0 : Nat) +
              Int.toNat (IntKind.wrap IntKind.i64 (Int.tdiv (↑i : Int) (64 : Int))) * (1 : Nat)]? =
          some (SV.v (Value.int IntKind.u64 (↑(limb v (i / (64 : Nat))) : Int))),
        fun _ => ¬(64 : Int) = (0 : Int), fun _ =>
        ¬IntKind.wrap IntKind.u64 (Int.tmod (↑i : Int) (64 : Int)) < (0 : Int), fun _ =>
        (0 : Int) ≤ IntKind.wrap IntKind.i64 (Int.tdiv (↑i : Int) (64 : Int)) ∧
          IntKind.wrap IntKind.i64 (Int.tdiv (↑i : Int) (64 : Int)) < (4 : Int),
        fun _ =>
        (0 : Nat) + Int.toNat (IntKind.wrap IntKind.i64 (Int.tdiv (↑i : Int) (64 : Int))) * (1 : Nat) + (1 : Nat) ≤
          (4 : Nat)]
      (It.rnd [(0 : Nat), (0 : Nat), (1 : Nat), (0 : Nat), (1 : Nat), (1 : Nat)] (M + (1 : Nat)) :: kt)
      (St.mk
        [((4 : Nat), SV.v (Value.int IntKind.i64 (IntKind.wrap IntKind.i64 ((↑i : Int) - (1 : Int))))),
          ((9 : Nat), SV.v (Value.int IntKind.i64 (IntKind.wrap IntKind.i64 ((↑i : Int) - (1 : Int))))),
          ((8 : Nat), SV.v (Value.int IntKind.i64 (↑i : Int))),
          ((30 : Nat),
            SV.p (1 : Nat)
              ((0 : Nat) + Int.toNat (IntKind.wrap IntKind.i64 (Int.tdiv (↑i : Int) (64 : Int))) * (1 : Nat))),
          ((29 : Nat),
            SV.v
              (Value.int IntKind.u64
                (IntKind.wrap IntKind.u64
                  (↑(Int.toNat ((↑(limb v (i / (64 : Nat))) : Int) % (18446744073709551616 : Int)) |||
                        Int.toNat
                          (IntKind.wrap IntKind.u64
                              ((1 : Int) *
                                (2 : Int) ^
                                  if
                                      Int.toNat (IntKind.wrap IntKind.u64 (Int.tmod (↑i : Int) (64 : Int))) ≤
                                        (64 : Nat) then
                                    Int.toNat (IntKind.wrap IntKind.u64 (Int.tmod (↑i : Int) (64 : Int)))
                                  else (64 : Nat)) %
                            (18446744073709551616 : Int))) :
                    Int)))),
          ((28 : Nat),
            SV.v
              (Value.int IntKind.u64
                (IntKind.wrap IntKind.u64
                  ((1 : Int) *
                    (2 : Int) ^
                      if Int.toNat (IntKind.wrap IntKind.u64 (Int.tmod (↑i : Int) (64 : Int))) ≤ (64 : Nat) then
                        Int.toNat (IntKind.wrap IntKind.u64 (Int.tmod (↑i : Int) (64 : Int)))
                      else (64 : Nat))))),
          ((27 : Nat), SV.v (Value.int IntKind.u64 (IntKind.wrap IntKind.u64 (Int.tmod (↑i : Int) (64 : Int))))),
          ((26 : Nat), SV.v (Value.int IntKind.i64 (Int.tmod (↑i : Int) (64 : Int)))),
          ((25 : Nat), SV.v (Value.int IntKind.i64 (↑i : Int))),
          ((24 : Nat), SV.v (Value.int IntKind.u64 (↑(limb v (i / (64 : Nat))) : Int))),
          ((23 : Nat),
            SV.p (1 : Nat)
              ((0 : Nat) + Int.toNat (IntKind.wrap IntKind.i64 (Int.tdiv (↑i : Int) (64 : Int))) * (1 : Nat))),
          ((22 : Nat), SV.v (Value.int IntKind.i64 (IntKind.wrap IntKind.i64 (Int.tdiv (↑i : Int) (64 : Int))))),
          ((21 : Nat), SV.v (Value.int IntKind.i64 (↑i : Int))),
          ((20 : Nat), SV.v (Value.bool ((↑b : Int) == (1 : Int)))),
          ((19 : Nat), SV.v (Value.bool ((↑b : Int) == (1 : Int)))),
          ((18 : Nat), SV.v (Value.int IntKind.i64 (↑b : Int))),
          ((17 : Nat),
            SV.v
              (Value.pointer
                (match oa with
                | some x =>
                  some
                    (if Int.toNat (↑i : Int) * (1 : Nat) = (0 : Nat) then x
                    else Addr.mk x.1 (x.2 + Int.toNat (↑i : Int) * (1 : Nat)) none)
                | none => none))),
          ((16 : Nat), SV.v (Value.int IntKind.i64 (↑i : Int))), ((15 : Nat), SV.v (Value.slice oa n c)),
          ((14 : Nat), SV.bl true), ((13 : Nat), SV.v (Value.bool (decide ((↑i : Int) < (↑n : Int))))),
          ((12 : Nat), SV.v (Value.int IntKind.i64 (↑n : Int))), ((11 : Nat), SV.v (Value.slice oa n c)),
          ((10 : Nat), SV.v (Value.int IntKind.i64 (↑i : Int))),
          ((7 : Nat), SV.v (Value.bool (decide ((0 : Int) ≤ (↑i : Int))))),
          ((6 : Nat), SV.v (Value.int IntKind.i64 (↑i : Int))), ((3 : Nat), SV.p (1 : Nat) (0 : Nat)),
          ((2 : Nat), SV.p (0 : Nat) (0 : Nat)), ((0 : Nat), SV.v (Value.slice oa n c))]
        [HO.cells
            [SV.v (Value.int IntKind.u64 (↑(limb (0 : Nat) (0 : Nat)) : Int)),
              SV.v (Value.int IntKind.u64 (↑(limb (0 : Nat) (1 : Nat)) : Int)),
              SV.v (Value.int IntKind.u64 (↑(limb (0 : Nat) (2 : Nat)) : Int)),
              SV.v (Value.int IntKind.u64 (↑(limb (0 : Nat) (3 : Nat)) : Int))]
            (24 : Nat),
          HO.cells
            (List.take ((0 : Nat) + Int.toNat (IntKind.wrap IntKind.i64 (Int.tdiv (↑i : Int) (64 : Int))) * (1 : Nat))
                  [SV.v (Value.int IntKind.u64 (↑(limb v (0 : Nat)) : Int)),
                    SV.v (Value.int IntKind.u64 (↑(limb v (1 : Nat)) : Int)),
                    SV.v (Value.int IntKind.u64 (↑(limb v (2 : Nat)) : Int)),
                    SV.v (Value.int IntKind.u64 (↑(limb v (3 : Nat)) : Int))] ++
                [SV.v
                    (Value.int IntKind.u64
                      (IntKind.wrap IntKind.u64
                        (↑(Int.toNat ((↑(limb v (i / (64 : Nat))) : Int) % (18446744073709551616 : Int)) |||
                              Int.toNat
                                (IntKind.wrap IntKind.u64
                                    ((1 : Int) *
                                      (2 : Int) ^
                                        if
                                            Int.toNat (IntKind.wrap IntKind.u64 (Int.tmod (↑i : Int) (64 : Int))) ≤
                                              (64 : Nat) then
                                          Int.toNat (IntKind.wrap IntKind.u64 (Int.tmod (↑i : Int) (64 : Int)))
                                        else (64 : Nat)) %
                                  (18446744073709551616 : Int))) :
                          Int)))] ++
              List.drop
                ((0 : Nat) + Int.toNat (IntKind.wrap IntKind.i64 (Int.tdiv (↑i : Int) (64 : Int))) * (1 : Nat) +
                  (1 : Nat))
                [SV.v (Value.int IntKind.u64 (↑(limb v (0 : Nat)) : Int)),
                  SV.v (Value.int IntKind.u64 (↑(limb v (1 : Nat)) : Int)),
                  SV.v (Value.int IntKind.u64 (↑(limb v (2 : Nat)) : Int)),
                  SV.v (Value.int IntKind.u64 (↑(limb v (3 : Nat)) : Int))])
            (24 : Nat)]),
    Leaf2.mk [decide ((↑i : Int) < (↑n : Int)) = true, ((↑b : Int) == (1 : Int)) = false]
      [fun _ => decide ((0 : Int) ≤ (↑i : Int)) = true, fun _ => decide ((↑i : Int) < (↑n : Int)) = true, fun _ =>
        (0 : Int) ≤ (↑i : Int) ∧ (↑i : Int) < (↑n : Int), fun _ =>
        (match oa with
          | some _ => true
          | none => false) =
          true,
        fun M =>
        MCells (fun a => M a)
          (match oa with
          | some x =>
            some
              (if Int.toNat (↑i : Int) * (1 : Nat) = (0 : Nat) then x
              else Addr.mk x.1 (x.2 + Int.toNat (↑i : Int) * (1 : Nat)) none)
          | none => none)
          [Value.int IntKind.i64 (↑b : Int)],
        fun _ => ((↑b : Int) == (1 : Int)) = false]
      (It.rnd [(0 : Nat), (0 : Nat), (1 : Nat), (0 : Nat), (1 : Nat), (1 : Nat)] (M + (1 : Nat)) :: kt)
      (St.mk
        [((4 : Nat), SV.v (Value.int IntKind.i64 (IntKind.wrap IntKind.i64 ((↑i : Int) - (1 : Int))))),
          ((9 : Nat), SV.v (Value.int IntKind.i64 (IntKind.wrap IntKind.i64 ((↑i : Int) - (1 : Int))))),
          ((8 : Nat), SV.v (Value.int IntKind.i64 (↑i : Int))),
          ((20 : Nat), SV.v (Value.bool ((↑b : Int) == (1 : Int)))),
          ((19 : Nat), SV.v (Value.bool ((↑b : Int) == (1 : Int)))),
          ((18 : Nat), SV.v (Value.int IntKind.i64 (↑b : Int))),
          ((17 : Nat),
            SV.v
              (Value.pointer
                (match oa with
                | some x =>
                  some
                    (if Int.toNat (↑i : Int) * (1 : Nat) = (0 : Nat) then x
                    else Addr.mk x.1 (x.2 + Int.toNat (↑i : Int) * (1 : Nat)) none)
                | none => none))),
          ((16 : Nat), SV.v (Value.int IntKind.i64 (↑i : Int))), ((15 : Nat), SV.v (Value.slice oa n c)),
          ((14 : Nat), SV.bl true), ((13 : Nat), SV.v (Value.bool (decide ((↑i : Int) < (↑n : Int))))),
          ((12 : Nat), SV.v (Value.int IntKind.i64 (↑n : Int))), ((11 : Nat), SV.v (Value.slice oa n c)),
          ((10 : Nat), SV.v (Value.int IntKind.i64 (↑i : Int))),
          ((7 : Nat), SV.v (Value.bool (decide ((0 : Int) ≤ (↑i : Int))))),
          ((6 : Nat), SV.v (Value.int IntKind.i64 (↑i : Int))), ((3 : Nat), SV.p (1 : Nat) (0 : Nat)),
          ((2 : Nat), SV.p (0 : Nat) (0 : Nat)), ((0 : Nat), SV.v (Value.slice oa n c))]
        [HO.cells
            [SV.v (Value.int IntKind.u64 (↑(limb (0 : Nat) (0 : Nat)) : Int)),
              SV.v (Value.int IntKind.u64 (↑(limb (0 : Nat) (1 : Nat)) : Int)),
              SV.v (Value.int IntKind.u64 (↑(limb (0 : Nat) (2 : Nat)) : Int)),
              SV.v (Value.int IntKind.u64 (↑(limb (0 : Nat) (3 : Nat)) : Int))]
            (24 : Nat),
          HO.cells
            [SV.v (Value.int IntKind.u64 (↑(limb v (0 : Nat)) : Int)),
              SV.v (Value.int IntKind.u64 (↑(limb v (1 : Nat)) : Int)),
              SV.v (Value.int IntKind.u64 (↑(limb v (2 : Nat)) : Int)),
              SV.v (Value.int IntKind.u64 (↑(limb v (3 : Nat)) : Int))]
            (24 : Nat)]),
    Leaf2.mk [decide ((↑i : Int) < (↑n : Int)) = false]
      [fun _ => decide ((0 : Int) ≤ (↑i : Int)) = true, fun _ => decide ((↑i : Int) < (↑n : Int)) = false, fun _ =>
        false = false]
      (It.rnd [(0 : Nat), (0 : Nat), (1 : Nat), (0 : Nat), (1 : Nat), (1 : Nat)] (M + (1 : Nat)) :: kt)
      (St.mk
        [((4 : Nat), SV.v (Value.int IntKind.i64 (IntKind.wrap IntKind.i64 ((↑i : Int) - (1 : Int))))),
          ((9 : Nat), SV.v (Value.int IntKind.i64 (IntKind.wrap IntKind.i64 ((↑i : Int) - (1 : Int))))),
          ((8 : Nat), SV.v (Value.int IntKind.i64 (↑i : Int))), ((20 : Nat), SV.v (Value.bool false)),
          ((19 : Nat), SV.v (Value.tuple (Array.mk []))), ((18 : Nat), SV.v (Value.tuple (Array.mk []))),
          ((17 : Nat), SV.v (Value.tuple (Array.mk []))), ((16 : Nat), SV.v (Value.tuple (Array.mk []))),
          ((15 : Nat), SV.v (Value.tuple (Array.mk []))), ((14 : Nat), SV.bl false),
          ((13 : Nat), SV.v (Value.bool (decide ((↑i : Int) < (↑n : Int))))),
          ((12 : Nat), SV.v (Value.int IntKind.i64 (↑n : Int))), ((11 : Nat), SV.v (Value.slice oa n c)),
          ((10 : Nat), SV.v (Value.int IntKind.i64 (↑i : Int))),
          ((7 : Nat), SV.v (Value.bool (decide ((0 : Int) ≤ (↑i : Int))))),
          ((6 : Nat), SV.v (Value.int IntKind.i64 (↑i : Int))), ((3 : Nat), SV.p (1 : Nat) (0 : Nat)),
          ((2 : Nat), SV.p (0 : Nat) (0 : Nat)), ((0 : Nat), SV.v (Value.slice oa n c))]
        [HO.cells
            [SV.v (Value.int IntKind.u64 (↑(limb (0 : Nat) (0 : Nat)) : Int)),
              SV.v (Value.int IntKind.u64 (↑(limb (0 : Nat) (1 : Nat)) : Int)),
              SV.v (Value.int IntKind.u64 (↑(limb (0 : Nat) (2 : Nat)) : Int)),
              SV.v (Value.int IntKind.u64 (↑(limb (0 : Nat) (3 : Nat)) : Int))]
            (24 : Nat),
          HO.cells
            [SV.v (Value.int IntKind.u64 (↑(limb v (0 : Nat)) : Int)),
              SV.v (Value.int IntKind.u64 (↑(limb v (1 : Nat)) : Int)),
              SV.v (Value.int IntKind.u64 (↑(limb v (2 : Nat)) : Int)),
              SV.v (Value.int IntKind.u64 (↑(limb v (3 : Nat)) : Int))]
            (24 : Nat)])] := by kernel_rfl

theorem ec_put (v i : Nat) (h : v % 2 ^ (i + 1) = 0) (hi : i < 256) : (ec v).take (i / 64) ++ [.v (.int .u64 ((limb v (i / 64) ||| 2 ^ (i % 64) : Nat) : Int))] ++ (ec v).drop (i / 64 + 1) = ec (v + 2 ^ i) := by
  rw [← ec_set v i h hi]
  have h4 : i / 64 = 0 ∨ i / 64 = 1 ∨ i / 64 = 2 ∨ i / 64 = 3 := by omega
  rcases h4 with hk | hk | hk | hk <;> rw [hk] <;> rfl
end Go.Proofs.Ytcipmpamhffclaa

namespace Go.Proofs.Ytcipmpamhffclaa
open Go.Sx Go.Pl Go.RowKit
theorem lift_cells {w0 : World} (o : Option Addr) (u : List Value) (M : Mem) (h : MCells (wmem w0) o u) (hM : F0 w0 M) : MCells M o u := by
  obtain ⟨ad, h1, h2⟩ := h
  refine ⟨ad, h1, fun j v hv => ?_⟩
  have := h2 j v hv
  unfold Mem.cell? at this ⊢
  cases hc : wmem w0 (ad.add j).block with
  | none => rw [hc] at this; cases this
  | some o => rw [hM _ _ hc]; rw [hc] at this; exact this
theorem setbit_expr (v i : Nat) : IntKind.wrap IntKind.u64 (↑(Int.toNat ((↑(limb v (i / 64)) : Int) % (18446744073709551616 : Int)) ||| Int.toNat (IntKind.wrap IntKind.u64 ((1 : Int) * (2 : Int) ^ if Int.toNat (IntKind.wrap IntKind.u64 (Int.tmod (↑i : Int) (64 : Int))) ≤ (64 : Nat) then Int.toNat (IntKind.wrap IntKind.u64 (Int.tmod (↑i : Int) (64 : Int))) else (64 : Nat)) % (18446744073709551616 : Int))) : Int) = ((limb v (i / 64) ||| 2 ^ (i % 64) : Nat) : Int) := by
  have e1 : Int.tmod (i : Int) (64 : Int) = ((i % 64 : Nat) : Int) := tmodNat i 64
  have e2 : IntKind.wrap .u64 ((i % 64 : Nat) : Int) = ((i % 64 : Nat) : Int) := by rw [wrap_u64]; omega
  have hlt : i % 64 < 64 := Nat.mod_lt _ (by omega)
  have hp : 2 ^ (i % 64) < 2 ^ 64 := Nat.pow_lt_pow_right (by omega) hlt
  have e3 : ((2 : Int) ^ (i % 64)) = ((2 ^ (i % 64) : Nat) : Int) := by rw [Int.natCast_pow]; rfl
  have hl := limb_lt v (i / 64)
  rw [e1, e2, Int.toNat_natCast, if_pos (by omega), Int.one_mul, e3, wrap_u64, wrap_u64]
  have hor : limb v (i / 64) ||| 2 ^ (i % 64) < 2 ^ 64 := Nat.or_lt_two_pow hl hp
  generalize (2 : Nat) ^ (i % 64) = q at *
  have h1 : Int.toNat ((↑(limb v (i / 64)) : Int) % 18446744073709551616) = limb v (i / 64) := by omega
  have h2 : Int.toNat ((q : Int) % 18446744073709551616 % 18446744073709551616) = q := by omega
  rw [h1, h2]
  omega
theorem elem_round {w0 : World} {fin : Exit → Act → World → Prop} (hfin : ∀ c (a : Act) (d : Option Tmp) (v : Value) (w : World), fin (.panic c) (a.put d v) w → fin (.panic c) a w)
    (oa : Option Addr) (n c v i M : Nat) (l : List Nat) (kt : List It) (hi : i < 256) (hl : l.length = n) (hv : v % 2 ^ (i + 1) = 0) (hb : ∀ b ∈ l, b ≤ 1) (ha : MCells (wmem w0) oa (bl l))
    (next : Ok Try.prog (bodyOf Try.f32) 32 (F0 w0) w0 fin (.rnd qE (M + 1) :: kt) (stE oa n c (v + l.getD i 0 * 2 ^ i) ((i : Int) - 1))) :
    Ok Try.prog (bodyOf Try.f32) 32 (F0 w0) w0 fin (.at qE :: .rnd qE (M + 1) :: kt) (stE oa n c v (i : Int)) := by
  have hF := F0.mono w0
  obtain ⟨g1, g2, g3, g4⟩ := getLimb v i hi
  have hwp := wrap_pred i hi
  have sa : ∃ ad, oa = some ad := ⟨ha.choose, ha.choose_spec.1⟩
  have e1 : Int.tmod (i : Int) (64 : Int) = ((i % 64 : Nat) : Int) := tmodNat i 64
  have e2 : IntKind.wrap .u64 ((i % 64 : Nat) : Int) = ((i % 64 : Nat) : Int) := by rw [wrap_u64]; omega
  have e3 : 0 + Int.toNat (IntKind.wrap IntKind.i64 (Int.tdiv (↑i : Int) (64 : Int))) * 1 = i / 64 := by
    have h2 : Int.tdiv (i : Int) (64 : Int) = ((i / 64 : Nat) : Int) := tdivNat i 64
    rw [h2, wrap_i64 (i / 64) (by omega), Int.toNat_natCast]; omega
  have hld : i < n → MCells (wmem w0) (addrAt oa (i * 1)) [Value.int IntKind.i64 ((l.getD i 0 : Nat) : Int)] := fun h => by
    refine mcells_at ha ?_
    have : l[i]? = some (l.getD i 0) := by
      rw [List.getD_eq_getElem?_getD, List.getElem?_eq_getElem (by omega)]; rfl
    simp only [bl, List.getElem?_map, this, Option.map_some]
  have key : ∀ (x : Nat) (tm : List (Nat × SV)) (hp : List HO), x = v + l.getD i 0 * 2 ^ i → RenT [0, 1] tm (stE oa n c x ((i : Int) - 1)).tm → RenH [0, 1] hp (stE oa n c x ((i : Int) - 1)).heap [0, 1] →
      Ok Try.prog (bodyOf Try.f32) 32 (F0 w0) w0 fin (.rnd qE (M + 1) :: kt) ⟨tm, hp⟩ := by
    intro x tm hp hx h1 h2
    subst hx
    exact Ok.weaken hF [0, 1] _ h1 h2 rfl (by simp [stE, wsAllT, wsAllH, ws, wsL, HO.ws, ec]) next
  refine (xgo_sound hm hF hfin 30 _ _ _ _ [] [] _ (elemRound oa n c v i (l.getD i 0) M kt) (paid_cons (fun has => ⟨?_, ?_⟩) (paid_cons (fun has => ⟨?_, ?_⟩) (paid_cons (fun has => ⟨?_, ?_⟩) paid_nil))) (fun a ha => by cases ha)).2
  · have h0 := has _ List.mem_cons_self
    have h1 := has _ (List.mem_cons_of_mem _ List.mem_cons_self)
    have hin : i < n := by simp only [decide_eq_true_eq] at h0; omega
    simp only [hold_cons, hold_nil, and_true]
    refine ⟨fun _ _ => decide_eq_true (by omega), fun _ _ => h0, fun _ _ => ⟨by omega, by omega⟩, fun _ _ => ?_, fun K hK => lift_cells _ _ _ (hld hin) hK, fun _ _ => h1, fun _ _ => by omega, fun _ _ => ⟨g2, g3⟩, fun _ _ => g1, fun _ _ => by omega, fun _ _ => ?_, fun _ _ => ⟨g2, g3⟩, fun _ _ => ?_⟩
    · obtain ⟨ad, rfl⟩ := sa; rfl
    · rw [e1, e2]; omega
    · rw [e3]; omega
  · have h1 := has _ (List.mem_cons_of_mem _ List.mem_cons_self)
    have hb1 : l.getD i 0 = 1 := by simp only [beq_iff_eq] at h1; omega
    refine key (v + 2 ^ i) _ _ (by rw [hb1, Nat.one_mul]) ⟨congrArg (fun z => some (SV.v (Value.int IntKind.i64 z))) hwp, rfl, rfl, rfl, trivial⟩ ⟨rfl, ?_, trivial⟩
    have hh : ∀ (k : Nat) (z : Int), k = i / 64 → z = ((limb v (i / 64) ||| 2 ^ (i % 64) : Nat) : Int) → List.take k (ec v) ++ [SV.v (.int .u64 z)] ++ List.drop (k + 1) (ec v) = ec (v + 2 ^ i) := by
      intro k z hk hz
      subst hk
      subst hz
      exact ec_put v i hv hi
    exact congrArg (fun z => some (HO.cells z 24)) (hh _ _ e3 (setbit_expr v i))
  · have h0 := has _ List.mem_cons_self
    have h1 := has _ (List.mem_cons_of_mem _ List.mem_cons_self)
    have hin : i < n := by simp only [decide_eq_true_eq] at h0; omega
    simp only [hold_cons, hold_nil, and_true]
    refine ⟨fun _ _ => decide_eq_true (by omega), fun _ _ => h0, fun _ _ => ⟨by omega, by omega⟩, fun _ _ => ?_, fun K hK => lift_cells _ _ _ (hld hin) hK, fun _ _ => h1⟩
    obtain ⟨ad, rfl⟩ := sa; rfl
  · have h0 := has _ List.mem_cons_self
    have h1 := has _ (List.mem_cons_of_mem _ List.mem_cons_self)
    have hb0 : l.getD i 0 = 0 := by
      have hin : i < n := by simp only [decide_eq_true_eq] at h0; omega
      have h2 : l.getD i 0 ≤ 1 := by
        rw [List.getD_eq_getElem?_getD, List.getElem?_eq_getElem (by omega)]
        exact hb _ (List.getElem_mem _)
      simp only [beq_eq_false_iff_ne] at h1
      omega
    exact key v _ _ (by rw [hb0]; omega) ⟨congrArg (fun z => some (SV.v (Value.int IntKind.i64 z))) hwp, rfl, rfl, rfl, trivial⟩ ⟨rfl, rfl, trivial⟩
  · have h0 := has _ List.mem_cons_self
    simp only [hold_cons, hold_nil, and_true]
    exact ⟨fun _ _ => decide_eq_true (by omega), fun _ _ => h0, fun _ _ => trivial⟩
  · have h0 := has _ List.mem_cons_self
    have hb0 : l.getD i 0 = 0 := by
      simp only [decide_eq_false_iff_not] at h0
      rw [List.getD_eq_getElem?_getD, List.getElem?_eq_none (by omega)]; rfl
    exact key v _ _ (by rw [hb0]; omega) ⟨congrArg (fun z => some (SV.v (Value.int IntKind.i64 z))) hwp, rfl, rfl, rfl, trivial⟩ ⟨rfl, rfl, trivial⟩
end Go.Proofs.Ytcipmpamhffclaa

namespace Go.Pl
/-- The number of bits, the least first. -/
def vb : List Nat → Nat
  | [] => 0
  | b :: r => b + 2 * vb r
theorem vb_drop (l : List Nat) (k : Nat) : vb (l.drop k) = l.getD k 0 + 2 * vb (l.drop (k + 1)) := by
  by_cases h : k < l.length
  · rw [List.drop_eq_getElem_cons h, vb, List.getD_eq_getElem?_getD, List.getElem?_eq_getElem h]; rfl
  · rw [List.drop_eq_nil_of_le (by omega), List.drop_eq_nil_of_le (by omega), List.getD_eq_getElem?_getD, List.getElem?_eq_none (by omega)]; rfl
end Go.Pl
namespace Go.Proofs.Ytcipmpamhffclaa
open Go.Sx Go.Pl Go.RowKit
theorem elemStart (oa : Option Addr) (n c : Nat) : (xgo Try.prog X (bodyOf Try.f32) 32 CD [] 50 [] (Tree.nil) [.at []] ⟨argsTm 0 [.slice oa n c], []⟩ [] []) =
  some
  [Leaf2.mk [] [fun _ => (4 : Nat) ≤ (4 : Nat)]
      [It.at [(0 : Nat), (1 : Nat), (0 : Nat), (1 : Nat), (1 : Nat)], It.blk (0 : Nat),
        It.at [(1 : Nat), (1 : Nat), (1 : Nat)]]
      (St.mk
        [((4 : Nat), SV.v (Value.int IntKind.i64 (255 : Int))), ((3 : Nat), SV.p (1 : Nat) (0 : Nat)),
          ((5 : Nat),
            SV.agg
              [SV.v (Value.int IntKind.u64 (0 : Int)), SV.v (Value.int IntKind.u64 (0 : Int)),
                SV.v (Value.int IntKind.u64 (0 : Int)), SV.v (Value.int IntKind.u64 (0 : Int))]),
          ((2 : Nat), SV.p (0 : Nat) (0 : Nat)), ((0 : Nat), SV.v (Value.slice oa n c))]
        [HO.cells
            [SV.v (Value.int IntKind.u64 (0 : Int)), SV.v (Value.int IntKind.u64 (0 : Int)),
              SV.v (Value.int IntKind.u64 (0 : Int)), SV.v (Value.int IntKind.u64 (0 : Int))]
            (24 : Nat),
          HO.cells
            [SV.v (Value.int IntKind.u64 (0 : Int)), SV.v (Value.int IntKind.u64 (0 : Int)),
              SV.v (Value.int IntKind.u64 (0 : Int)), SV.v (Value.int IntKind.u64 (0 : Int))]
            (24 : Nat)])]
 := by kernel_rfl

theorem elemEnd (oa : Option Addr) (n c v : Nat) : (((xgo Try.prog X (bodyOf Try.f32) 32 CD [] 30 [.f] (.nil) [.at qE, .rnd qE 1, .blk 0, .at [1,1,1]] (stE oa n c v (-1)) [] []).bind (ends Try.prog Try.f32.results.toList)).bind plainE) =
  some
  [EndP.mk [] [fun _ => false = false, fun _ => (0 : Nat) + (4 : Nat) ≤ (4 : Nat)]
      (Res.v
        (Value.agg
          (Array.mk
            [Value.int IntKind.u64 (↑(limb v (0 : Nat)) : Int), Value.int IntKind.u64 (↑(limb v (1 : Nat)) : Int),
              Value.int IntKind.u64 (↑(limb v (2 : Nat)) : Int), Value.int IntKind.u64 (↑(limb v (3 : Nat)) : Int)])))] := by kernel_rfl

theorem elem_loop {w : World} (oa : Option Addr) (n c : Nat) (l : List Nat) (hl : l.length = n) (hb : ∀ b ∈ l, b ≤ 1) (ha : MCells (wmem w) oa (bl l)) (R : Res → Prop) (hR : R (.v (el (vb (l.take 256))))) : ∀ (k : Nat), k ≤ 256 →
    Ok Try.prog (bodyOf Try.f32) 32 (F0 w) w (bodyPost Try.prog Try.f32 fun E w' => ∃ v r, E = .returned v ∧ R r ∧ r.ok w w' v ∧ Below w.heap.size w w') (.rnd qE (k + 2) :: [.blk 0, .at [1,1,1]]) (stE oa n c (2 ^ k * vb ((l.take 256).drop k)) ((k : Int) - 1))
  | 0, _ => by
    refine Ok.rnd (ok_plain hm (F0.mono w) (fun _ h => h) 30 _ _ _ _ (elemEnd oa n c _) ⟨fun _ => ⟨?_, ?_⟩, trivial⟩)
    · simp only [hold_cons, hold_nil, and_true]
      exact ⟨fun _ _ => trivial, fun _ _ => Nat.le_refl 4⟩
    · rw [Nat.pow_zero, Nat.one_mul, List.drop_zero]
      exact hR
  | k + 1, hk => by
    have h1 : (((k + 1 : Nat) : Int) - 1) = (k : Int) := by omega
    rw [h1]
    refine Ok.rnd (elem_round finB oa n c _ k (k + 1) l _ (by omega) hl (Nat.mul_mod_right _ _) hb ha ?_)
    have h2 : 2 ^ (k + 1) * vb ((l.take 256).drop (k + 1)) + l.getD k 0 * 2 ^ k = 2 ^ k * vb ((l.take 256).drop k) := by
      rw [vb_drop (l.take 256) k]
      have h3 : (l.take 256).getD k 0 = l.getD k 0 := by
        rw [List.getD_eq_getElem?_getD, List.getD_eq_getElem?_getD, List.getElem?_take, if_pos (by omega)]
      rw [h3, Nat.mul_add, Nat.pow_succ, Nat.mul_assoc, Nat.mul_comm (l.getD k 0), Nat.add_comm]
    rw [h2]
    exact elem_loop oa n c l hl hb ha R hR k (by omega)
end Go.Proofs.Ytcipmpamhffclaa

namespace Go.Proofs.Ytcipmpamhffclaa
open Go.Sx Go.Pl Go.RowKit
theorem refelem_ok (w : World) (vx : Value) (n : Nat) (l : List Nat) (hn0 : 0 < n) (hl : l.length = n) (hb : ∀ b ∈ l, b ≤ 1) (hx : reads (wmem w) n (bl l) vx) :
    Calls Try.prog 32 [vx].toArray w (fun E w' => ∃ v, E = .returned v ∧ Res.ok w w' (.v (el (vb (l.take 256)))) v ∧ Below w.heap.size w w') := by
  obtain ⟨oa, c, rfl, ha⟩ := hx
  have ha : MCells (wmem w) oa (bl l) := by
    rcases ha with ha | ha
    · have := bl_length l
      rw [ha] at this
      simp only [List.length_nil] at this
      omega
    · exact ha
  refine con_end (calls_of_ok (B := bodyOf Try.f32) (n := 32) Try.func32 (by kernel_rfl) rfl rfl (F := F0 w) (fun _ _ h => h) ?_)
  have hF := F0.mono w
  refine (xgo_sound hm hF finB 50 _ _ _ _ [] [] _ (elemStart oa n c) (paid_cons (fun _ => ⟨?_, ?_⟩) paid_nil) (fun a ha => by cases ha)).2
  · simp only [hold_cons, hold_nil, and_true]
    exact fun _ _ => Nat.le_refl 4
  · have h0 : 2 ^ 256 * vb ((l.take 256).drop 256) = 0 := by
      rw [List.drop_eq_nil_of_le (by rw [List.length_take]; omega)]; rfl
    have hmain := elem_loop (w := w) oa n c l hl hb ha (fun r => r = .v (el (vb (l.take 256)))) rfl 256 (Nat.le_refl _)
    rw [h0] at hmain
    refine Ok.weaken hF [0, 1] (stE oa n c 0 255) ⟨rfl, rfl, rfl, rfl, trivial⟩ ⟨?_, ?_, trivial⟩ rfl (by simp [stE, wsAllT, wsAllH, ws, wsL, HO.ws, ec]) (Ok.loop 258 (by kernel_rfl) hmain)
    · rw [ec_zero]; rfl
    · rw [ec_zero]; rfl
end Go.Proofs.Ytcipmpamhffclaa

namespace Go.Proofs.Ytcipmpamhffclaa
open Go.Sx Go.Pl Go.RowKit
noncomputable def gRAdd : List RV → Option (Res × Prop)
  | [.r n x, .r m y] => some (.r 3 1 (n + 1) (bl (adb (unbl x) (unbl y) 0)), m = n ∧ 0 < n ∧ n ≤ 900 ∧ x = bl (unbl x) ∧ y = bl (unbl y) ∧ (unbl x).length = n ∧ (unbl y).length = n ∧ (∀ b ∈ unbl x, b ≤ 1) ∧ (∀ b ∈ unbl y, b ≤ 1))
  | _ => none
theorem gRAdd_ok (rvs : List RV) (r : Res) (p : Prop) (vs : List Value) (w : World) (hg : gRAdd rvs = some (r, p)) (hp : p) (hv : RVs (wmem w) rvs vs) : Calls Try.prog 31 vs.toArray w (fun E w' => ∃ v, E = .returned v ∧ r.ok w w' v ∧ Below w.heap.size w w') := by
  unfold gRAdd at hg
  split at hg
  · rename_i n x m y
    simp only [Option.some.injEq, Prod.mk.injEq] at hg
    obtain ⟨rfl, rfl⟩ := hg
    obtain ⟨rfl, h1, h2, h3, h4, h5, h6, h7, h8⟩ := hp
    match vs, hv with
    | [a, b], ⟨q1, q2, _⟩ =>
      rw [h3] at q1
      rw [h4] at q2
      exact refadd_ok w a b _ _ _ h2 h1 h5 h6 h7 h8 q1 q2
  · cases hg
noncomputable def gRElem : List RV → Option (Res × Prop)
  | [.r n x] => some (.v (el (vb ((unbl x).take 256))), 0 < n ∧ x = bl (unbl x) ∧ (unbl x).length = n ∧ (∀ b ∈ unbl x, b ≤ 1))
  | _ => none
theorem gRElem_ok (rvs : List RV) (r : Res) (p : Prop) (vs : List Value) (w : World) (hg : gRElem rvs = some (r, p)) (hp : p) (hv : RVs (wmem w) rvs vs) : Calls Try.prog 32 vs.toArray w (fun E w' => ∃ v, E = .returned v ∧ r.ok w w' v ∧ Below w.heap.size w w') := by
  unfold gRElem at hg
  split at hg
  · rename_i n x
    simp only [Option.some.injEq, Prod.mk.injEq] at hg
    obtain ⟨rfl, rfl⟩ := hg
    obtain ⟨h1, h2, h3, h4⟩ := hp
    match vs, hv with
    | [a], ⟨q1, _⟩ =>
      rw [h2] at q1
      exact refelem_ok w a n _ h1 h3 h4 q1
  · cases hg
noncomputable def CE : Con Try.prog := (CD.add 31 gRAdd gRAdd_ok).add 32 gRElem gRElem_ok
end Go.Proofs.Ytcipmpamhffclaa
