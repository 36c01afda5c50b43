/- Remainders: the inner loop whole. -/
import Derived.Test.YtcipmpamhffclaaW9
namespace Go.Proofs.Ytcipmpamhffclaa
open Go.Sx Go.Pl Go.RowKit
theorem remExit (a b m h r : Nat) (j : Int) (KT : List It) : (xrun Try.prog X (bodyOf Try.f20) 57 8 [.f] (.at qI :: .rnd qI 1 :: .blk 2 :: KT) (stI a b m h r j (-1)) []) =
  some
  [Leaf.mk [fun _ => false = false] KT
      (St.mk
        [((26 : Nat), SV.v (Value.bool false)), ((25 : Nat), SV.v (Value.int IntKind.i64 (-1 : Int))),
          ((11 : Nat), SV.v (Value.int IntKind.i64 (-1 : Int))), ((10 : Nat), SV.p (5 : Nat) (0 : Nat)),
          ((8 : Nat), SV.p (4 : Nat) (0 : Nat)), ((6 : Nat), SV.p (3 : Nat) (0 : Nat)),
          ((7 : Nat), SV.v (Value.int IntKind.i64 (0 : Int))), ((5 : Nat), SV.p (2 : Nat) (0 : Nat)),
          ((22 : Nat), SV.v (Value.int IntKind.i64 j)),
          ((21 : Nat),
            SV.agg
              [SV.v (Value.int IntKind.u64 (↑(limb b (0 : Nat)) : Int)),
                SV.v (Value.int IntKind.u64 (↑(limb b (1 : Nat)) : Int)),
                SV.v (Value.int IntKind.u64 (↑(limb b (2 : Nat)) : Int)),
                SV.v (Value.int IntKind.u64 (↑(limb b (3 : Nat)) : Int)),
                SV.v (Value.int IntKind.u64 (↑(limb a (0 : Nat)) : Int)),
                SV.v (Value.int IntKind.u64 (↑(limb a (1 : Nat)) : Int)),
                SV.v (Value.int IntKind.u64 (↑(limb a (2 : Nat)) : Int)),
                SV.v (Value.int IntKind.u64 (↑(limb a (3 : Nat)) : Int))])]
        [HO.cells
            [SV.v (Value.int IntKind.u64 (↑(limb a (0 : Nat)) : Int)),
              SV.v (Value.int IntKind.u64 (↑(limb a (1 : Nat)) : Int)),
              SV.v (Value.int IntKind.u64 (↑(limb a (2 : Nat)) : Int)),
              SV.v (Value.int IntKind.u64 (↑(limb a (3 : Nat)) : Int))]
            (24 : Nat),
          HO.cells
            [SV.v (Value.int IntKind.u64 (↑(limb b (0 : Nat)) : Int)),
              SV.v (Value.int IntKind.u64 (↑(limb b (1 : Nat)) : Int)),
              SV.v (Value.int IntKind.u64 (↑(limb b (2 : Nat)) : Int)),
              SV.v (Value.int IntKind.u64 (↑(limb b (3 : Nat)) : Int))]
            (24 : Nat),
          HO.cells
            [SV.v (Value.int IntKind.u64 (↑(limb m (0 : Nat)) : Int)),
              SV.v (Value.int IntKind.u64 (↑(limb m (1 : Nat)) : Int)),
              SV.v (Value.int IntKind.u64 (↑(limb m (2 : Nat)) : Int)),
              SV.v (Value.int IntKind.u64 (↑(limb m (3 : Nat)) : Int))]
            (24 : Nat),
          HO.cells
            [SV.v (Value.int IntKind.u64 (↑(limb (0 : Nat) (0 : Nat)) : Int)),
              SV.v (Value.int IntKind.u64 (↑(limb (0 : Nat) (1 : Nat)) : Int)),
              SV.v (Value.int IntKind.u64 (↑(limb (0 : Nat) (2 : Nat)) : Int)),
              SV.v (Value.int IntKind.u64 (↑(limb (0 : Nat) (3 : Nat)) : Int))]
            (24 : Nat),
          HO.cells
            [SV.v (Value.int IntKind.u64 (↑(limb r (0 : Nat)) : Int)),
              SV.v (Value.int IntKind.u64 (↑(limb r (1 : Nat)) : Int)),
              SV.v (Value.int IntKind.u64 (↑(limb r (2 : Nat)) : Int)),
              SV.v (Value.int IntKind.u64 (↑(limb r (3 : Nat)) : Int))]
            (24 : Nat),
          HO.cells
            [SV.v (Value.int IntKind.u64 (↑(limb h (0 : Nat)) : Int)),
              SV.v (Value.int IntKind.u64 (↑(limb h (1 : Nat)) : Int)),
              SV.v (Value.int IntKind.u64 (↑(limb h (2 : Nat)) : Int)),
              SV.v (Value.int IntKind.u64 (↑(limb h (3 : Nat)) : Int))]
            (24 : Nat)])
      []] := by kernel_rfl
theorem rem_exit {F : Mem → Prop} (hF : Mono F) {w0 : World} {fin : Exit → Act → World → Prop} (hfin : ∀ c (a : Act) (d : Option Tmp) (v : Value) (w : World), fin (.panic c) (a.put d v) w → fin (.panic c) a w)
    (a b m h r : Nat) (j : Int) (KT : List It) (next : Ok Try.prog (bodyOf Try.f20) 57 F w0 fin KT (stI a b m h r j (-1))) :
    Ok Try.prog (bodyOf Try.f20) 57 F w0 fin (.at qI :: .rnd qI 1 :: .blk 2 :: KT) (stI a b m h r j (-1)) := by
  refine xrun_sound hm hF hfin 8 _ _ _ _ (remExit a b m h r j KT) fun l hl => ?_
  rw [List.mem_singleton] at hl
  subst hl
  refine ⟨?_, Ok.weaken hF [0,1,2,3,4,5] (stI a b m h r j (-1)) ⟨rfl, rfl, rfl, rfl, rfl, rfl, rfl, rfl, trivial⟩ ⟨rfl, rfl, rfl, rfl, rfl, rfl, trivial⟩ rfl (by
      simp [stI, wsAllT, wsAllH, ws, wsL, HO.ws, ec]) next⟩
  simp only [hold_cons, hold_nil, and_true]
  exact fun _ _ => trivial
theorem bits_step (r h m n : Nat) : ((2 * r + bitOf h n) % m * 2 ^ n + h % 2 ^ n) % m = (r * 2 ^ (n + 1) + h % 2 ^ (n + 1)) % m := by
  rw [bitOf_eq, Nat.mod_pow_succ, Nat.add_mod, Nat.mod_mul_mod, ← Nat.add_mod]
  congr 1
  rw [Nat.add_mul, Nat.pow_succ, Nat.mul_comm (2 ^ n) (h / 2 ^ n % 2)]
  have : r * (2 ^ n * 2) = 2 * r * 2 ^ n := by rw [Nat.mul_comm (2 ^ n) 2, ← Nat.mul_assoc, Nat.mul_comm r 2]
  omega
theorem rem_inner {F : Mem → Prop} (hF : Mono F) {w0 : World} {fin : Exit → Act → World → Prop} (hfin : ∀ c (a : Act) (d : Option Tmp) (v : Value) (w : World), fin (.panic c) (a.put d v) w → fin (.panic c) a w)
    (a b m h : Nat) (j : Int) (KT : List It) (hmt : m < top) : ∀ (n r : Nat), n ≤ 256 → r < m →
    Ok Try.prog (bodyOf Try.f20) 57 F w0 fin KT (stI a b m h ((r * 2 ^ n + h % 2 ^ n) % m) j (-1)) →
    Ok Try.prog (bodyOf Try.f20) 57 F w0 fin (.rnd qI (n + 2) :: .blk 2 :: KT) (stI a b m h r j ((n : Int) - 1))
  | 0, r, _, hr, next => by
    refine Ok.rnd (rem_exit hF hfin a b m h r j KT ?_)
    rw [Nat.pow_zero, Nat.mod_one, Nat.mul_one, Nat.add_zero, Nat.mod_eq_of_lt hr] at next
    exact next
  | n + 1, r, hn, hr, next => by
    refine Ok.rnd ?_
    have h1 : (((n + 1 : Nat) : Int) - 1) = (n : Int) := by omega
    rw [h1]
    refine rem_round hF hfin a b m h r n (n + 1) j (.blk 2 :: KT) (by omega) hmt hr ?_
    refine rem_inner hF hfin a b m h j KT hmt n ((2 * r + bitOf h n) % m) (by omega) (Nat.mod_lt _ (by omega)) ?_
    rw [bits_step]
    exact next
end Go.Proofs.Ytcipmpamhffclaa
