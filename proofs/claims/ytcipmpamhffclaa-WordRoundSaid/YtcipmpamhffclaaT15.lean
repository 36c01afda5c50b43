/- The document's last digit of a number: the inner loop. -/
import Derived.Test.YtcipmpamhffclaaT12
namespace Go.Pl
theorem div_two (a k : Nat) : a / 2 ^ k = 2 * (a / 2 ^ (k + 1)) + a / 2 ^ k % 2 := by
  have : a / 2 ^ (k + 1) = a / 2 ^ k / 2 := by rw [Nat.pow_succ, Nat.div_div_eq_div_mul]
  rw [this]
  omega
theorem dig_bound (y o r rin x k : Nat) (hk : k ≤ 63) (hrin : rin < y) (hx : x < 18446744073709551616) (h : y * o + r = rin * 2 ^ (63 - k) + x / 2 ^ (k + 1)) : o < 9223372036854775808 := by
  have h1 : x / 2 ^ (k + 1) < 2 ^ (63 - k) := by
    apply Nat.div_lt_of_lt_mul
    rw [← Nat.pow_add, show k + 1 + (63 - k) = 64 by omega]
    exact hx
  have h2 : (rin + 1) * 2 ^ (63 - k) ≤ y * 2 ^ (63 - k) := Nat.mul_le_mul_right _ hrin
  rw [Nat.add_mul, Nat.one_mul] at h2
  have h3 : y * o < y * 2 ^ (63 - k) := by omega
  have h4 := Nat.lt_of_mul_lt_mul_left h3
  have h5 : 2 ^ (63 - k) ≤ 2 ^ 63 := Nat.pow_le_pow_right (by omega) (by omega)
  have h6 : (2 : Nat) ^ 63 = 9223372036854775808 := by decide
  omega
theorem dig_step (y o r o' r' rin x k : Nat) (hk : k ≤ 63) (h : y * o + r = rin * 2 ^ (63 - k) + x / 2 ^ (k + 1)) (h2 : y * o' + r' = 2 * (y * o + r) + x / 2 ^ k % 2) : y * o' + r' = rin * 2 ^ (64 - k) + x / 2 ^ k := by
  have h3 := div_two x k
  have h4 : rin * 2 ^ (64 - k) = 2 * (rin * 2 ^ (63 - k)) := by
    rw [show 64 - k = (63 - k) + 1 by omega, Nat.pow_succ, Nat.mul_left_comm 2, Nat.mul_comm 2]
  omega
end Go.Pl
namespace Go.Proofs.Ytcipmpamhffclaa
open Go.Sx Go.Pl Go.RowKit
theorem rdigX0 (a y r o0 o1 o2 o3 N M : Nat) (j : Int) (kt : List It) : ((xgo Try.prog X (bodyOf Try.f48) 48 TE [] 20 [.f] (.nil) (.at qX :: .rnd qX (N + 1) :: .blk 2 :: .blk 1 :: .at [1,1,0,0,1,0,1,1,1] :: .rnd qD (M + 1) :: kt) (stX a y r 0 j o0 o1 o2 o3) [] []).map (trims [8, 7, 6, 5, 4, 2, 1])) =
  some [Leaf2.mk [] [fun _ => decide ((0 : Int) ≤ j) = false] (It.rnd [(0 : Nat), (0 : Nat), (1 : Nat), (0 : Nat), (1 : Nat), (1 : Nat), (1 : Nat)] (M + (1 : Nat)) :: kt) (St.mk [((8 : Nat), SV.v (Value.int IntKind.i64 (-1 : Int))), ((7 : Nat), SV.v (Value.int IntKind.u64 (↑r : Int))), ((6 : Nat), SV.p (2 : Nat) (0 : Nat)), ((5 : Nat), SV.v (Value.int IntKind.i64 (0 : Int))), ((4 : Nat), SV.p (1 : Nat) (0 : Nat)), ((2 : Nat), SV.p (0 : Nat) (0 : Nat)), ((1 : Nat), SV.v (Value.int IntKind.u64 (↑y : Int)))] [HO.cells (ec a) (24 : Nat), HO.cells (ec (0 : Nat)) (24 : Nat), HO.cells [SV.v (Value.int IntKind.u64 (↑o0 : Int)), SV.v (Value.int IntKind.u64 (↑o1 : Int)), SV.v (Value.int IntKind.u64 (↑o2 : Int)), SV.v (Value.int IntKind.u64 (↑o3 : Int))] (24 : Nat)])]
  := by kernel_rfl

theorem rdigX1 (a y r o0 o1 o2 o3 N M : Nat) (j : Int) (kt : List It) : ((xgo Try.prog X (bodyOf Try.f48) 48 TE [] 20 [.f] (.nil) (.at qX :: .rnd qX (N + 1) :: .blk 2 :: .blk 1 :: .at [1,1,0,0,1,0,1,1,1] :: .rnd qD (M + 1) :: kt) (stX a y r 1 j o0 o1 o2 o3) [] []).map (trims [8, 7, 6, 5, 4, 2, 1])) =
  some [Leaf2.mk [] [fun _ => decide ((0 : Int) ≤ j) = false] (It.rnd [(0 : Nat), (0 : Nat), (1 : Nat), (0 : Nat), (1 : Nat), (1 : Nat), (1 : Nat)] (M + (1 : Nat)) :: kt) (St.mk [((8 : Nat), SV.v (Value.int IntKind.i64 (0 : Int))), ((7 : Nat), SV.v (Value.int IntKind.u64 (↑r : Int))), ((6 : Nat), SV.p (2 : Nat) (0 : Nat)), ((5 : Nat), SV.v (Value.int IntKind.i64 (0 : Int))), ((4 : Nat), SV.p (1 : Nat) (0 : Nat)), ((2 : Nat), SV.p (0 : Nat) (0 : Nat)), ((1 : Nat), SV.v (Value.int IntKind.u64 (↑y : Int)))] [HO.cells (ec a) (24 : Nat), HO.cells (ec (0 : Nat)) (24 : Nat), HO.cells [SV.v (Value.int IntKind.u64 (↑o0 : Int)), SV.v (Value.int IntKind.u64 (↑o1 : Int)), SV.v (Value.int IntKind.u64 (↑o2 : Int)), SV.v (Value.int IntKind.u64 (↑o3 : Int))] (24 : Nat)])]
  := by kernel_rfl

theorem rdigX2 (a y r o0 o1 o2 o3 N M : Nat) (j : Int) (kt : List It) : ((xgo Try.prog X (bodyOf Try.f48) 48 TE [] 20 [.f] (.nil) (.at qX :: .rnd qX (N + 1) :: .blk 2 :: .blk 1 :: .at [1,1,0,0,1,0,1,1,1] :: .rnd qD (M + 1) :: kt) (stX a y r 2 j o0 o1 o2 o3) [] []).map (trims [8, 7, 6, 5, 4, 2, 1])) =
  some [Leaf2.mk [] [fun _ => decide ((0 : Int) ≤ j) = false] (It.rnd [(0 : Nat), (0 : Nat), (1 : Nat), (0 : Nat), (1 : Nat), (1 : Nat), (1 : Nat)] (M + (1 : Nat)) :: kt) (St.mk [((8 : Nat), SV.v (Value.int IntKind.i64 (1 : Int))), ((7 : Nat), SV.v (Value.int IntKind.u64 (↑r : Int))), ((6 : Nat), SV.p (2 : Nat) (0 : Nat)), ((5 : Nat), SV.v (Value.int IntKind.i64 (0 : Int))), ((4 : Nat), SV.p (1 : Nat) (0 : Nat)), ((2 : Nat), SV.p (0 : Nat) (0 : Nat)), ((1 : Nat), SV.v (Value.int IntKind.u64 (↑y : Int)))] [HO.cells (ec a) (24 : Nat), HO.cells (ec (0 : Nat)) (24 : Nat), HO.cells [SV.v (Value.int IntKind.u64 (↑o0 : Int)), SV.v (Value.int IntKind.u64 (↑o1 : Int)), SV.v (Value.int IntKind.u64 (↑o2 : Int)), SV.v (Value.int IntKind.u64 (↑o3 : Int))] (24 : Nat)])]
  := by kernel_rfl

theorem rdigX3 (a y r o0 o1 o2 o3 N M : Nat) (j : Int) (kt : List It) : ((xgo Try.prog X (bodyOf Try.f48) 48 TE [] 20 [.f] (.nil) (.at qX :: .rnd qX (N + 1) :: .blk 2 :: .blk 1 :: .at [1,1,0,0,1,0,1,1,1] :: .rnd qD (M + 1) :: kt) (stX a y r 3 j o0 o1 o2 o3) [] []).map (trims [8, 7, 6, 5, 4, 2, 1])) =
  some [Leaf2.mk [] [fun _ => decide ((0 : Int) ≤ j) = false] (It.rnd [(0 : Nat), (0 : Nat), (1 : Nat), (0 : Nat), (1 : Nat), (1 : Nat), (1 : Nat)] (M + (1 : Nat)) :: kt) (St.mk [((8 : Nat), SV.v (Value.int IntKind.i64 (2 : Int))), ((7 : Nat), SV.v (Value.int IntKind.u64 (↑r : Int))), ((6 : Nat), SV.p (2 : Nat) (0 : Nat)), ((5 : Nat), SV.v (Value.int IntKind.i64 (0 : Int))), ((4 : Nat), SV.p (1 : Nat) (0 : Nat)), ((2 : Nat), SV.p (0 : Nat) (0 : Nat)), ((1 : Nat), SV.v (Value.int IntKind.u64 (↑y : Int)))] [HO.cells (ec a) (24 : Nat), HO.cells (ec (0 : Nat)) (24 : Nat), HO.cells [SV.v (Value.int IntKind.u64 (↑o0 : Int)), SV.v (Value.int IntKind.u64 (↑o1 : Int)), SV.v (Value.int IntKind.u64 (↑o2 : Int)), SV.v (Value.int IntKind.u64 (↑o3 : Int))] (24 : Nat)])]
  := by kernel_rfl


theorem rdig_inner0 {w : World} {fin : Exit → Act → World → Prop} (hfin : ∀ c (a : Act) (d : Option Tmp) (v : Value) (w : World), fin (.panic c) (a.put d v) w → fin (.panic c) a w)
    (a y rin o1 o2 o3 M : Nat) (kt : List It) (hy : y ≤ 16) (hrin : rin < y)
    (next : ∀ r' o' : Nat, r' < y → y * o' + r' = rin * 2 ^ 64 + limb a 0 → Ok Try.prog (bodyOf Try.f48) 48 (F0 w) w fin (.rnd qD (M + 1) :: kt) (stD a y r' (-1) o' o1 o2 o3)) :
    ∀ (k r o0 : Nat), k ≤ 64 → r < y → y * o0 + r = rin * 2 ^ (64 - k) + limb a 0 / 2 ^ k →
    Ok Try.prog (bodyOf Try.f48) 48 (F0 w) w fin (.rnd qX (k + 2) :: .blk 2 :: .blk 1 :: .at [1,1,0,0,1,0,1,1,1] :: .rnd qD (M + 1) :: kt) (stX a y r 0 ((k : Int) - 1) o0 o1 o2 o3)
  | 0, r, o0, _, hr, he => by
    refine Ok.rnd (xgo_trim hm (F0.mono w) hfin 20 _ _ _ _ _ _ (rdigX0 a y r o0 o1 o2 o3 0 M _ kt) (paidCons (fun _ => ⟨?_, ?_⟩) paidNil))
    · simp only [hold_cons, hold_nil, and_true]
      exact fun _ _ => decide_eq_false (by omega)
    · exact next r o0 hr (by rw [he, Nat.pow_zero, Nat.div_one])
  | k + 1, r, o0, hk, hr, he => by
    have h1 : (((k + 1 : Nat) : Int) - 1) = (k : Int) := by omega
    have h2 : 64 - (k + 1) = 63 - k := by omega
    rw [h1]
    rw [h2] at he
    refine Ok.rnd (rdig_round0 hfin a y r o0 o1 o2 o3 k (k + 1) _ (by omega) hy hr (dig_bound y o0 r rin (limb a 0) k (by omega) hrin (limb_lt _ _) he) (fun r' o' hr' he' => ?_))
    exact rdig_inner0 hfin a y rin o1 o2 o3 M kt hy hrin next k r' o' (by omega) hr' (dig_step y o0 r o' r' rin (limb a 0) k (by omega) he he')
theorem rdig_inner1 {w : World} {fin : Exit → Act → World → Prop} (hfin : ∀ c (a : Act) (d : Option Tmp) (v : Value) (w : World), fin (.panic c) (a.put d v) w → fin (.panic c) a w)
    (a y rin o0 o2 o3 M : Nat) (kt : List It) (hy : y ≤ 16) (hrin : rin < y)
    (next : ∀ r' o' : Nat, r' < y → y * o' + r' = rin * 2 ^ 64 + limb a 1 → Ok Try.prog (bodyOf Try.f48) 48 (F0 w) w fin (.rnd qD (M + 1) :: kt) (stD a y r' (0) o0 o' o2 o3)) :
    ∀ (k r o1 : Nat), k ≤ 64 → r < y → y * o1 + r = rin * 2 ^ (64 - k) + limb a 1 / 2 ^ k →
    Ok Try.prog (bodyOf Try.f48) 48 (F0 w) w fin (.rnd qX (k + 2) :: .blk 2 :: .blk 1 :: .at [1,1,0,0,1,0,1,1,1] :: .rnd qD (M + 1) :: kt) (stX a y r 1 ((k : Int) - 1) o0 o1 o2 o3)
  | 0, r, o1, _, hr, he => by
    refine Ok.rnd (xgo_trim hm (F0.mono w) hfin 20 _ _ _ _ _ _ (rdigX1 a y r o0 o1 o2 o3 0 M _ kt) (paidCons (fun _ => ⟨?_, ?_⟩) paidNil))
    · simp only [hold_cons, hold_nil, and_true]
      exact fun _ _ => decide_eq_false (by omega)
    · exact next r o1 hr (by rw [he, Nat.pow_zero, Nat.div_one])
  | k + 1, r, o1, hk, hr, he => by
    have h1 : (((k + 1 : Nat) : Int) - 1) = (k : Int) := by omega
    have h2 : 64 - (k + 1) = 63 - k := by omega
    rw [h1]
    rw [h2] at he
    refine Ok.rnd (rdig_round1 hfin a y r o0 o1 o2 o3 k (k + 1) _ (by omega) hy hr (dig_bound y o1 r rin (limb a 1) k (by omega) hrin (limb_lt _ _) he) (fun r' o' hr' he' => ?_))
    exact rdig_inner1 hfin a y rin o0 o2 o3 M kt hy hrin next k r' o' (by omega) hr' (dig_step y o1 r o' r' rin (limb a 1) k (by omega) he he')
theorem rdig_inner2 {w : World} {fin : Exit → Act → World → Prop} (hfin : ∀ c (a : Act) (d : Option Tmp) (v : Value) (w : World), fin (.panic c) (a.put d v) w → fin (.panic c) a w)
    (a y rin o0 o1 o3 M : Nat) (kt : List It) (hy : y ≤ 16) (hrin : rin < y)
    (next : ∀ r' o' : Nat, r' < y → y * o' + r' = rin * 2 ^ 64 + limb a 2 → Ok Try.prog (bodyOf Try.f48) 48 (F0 w) w fin (.rnd qD (M + 1) :: kt) (stD a y r' (1) o0 o1 o' o3)) :
    ∀ (k r o2 : Nat), k ≤ 64 → r < y → y * o2 + r = rin * 2 ^ (64 - k) + limb a 2 / 2 ^ k →
    Ok Try.prog (bodyOf Try.f48) 48 (F0 w) w fin (.rnd qX (k + 2) :: .blk 2 :: .blk 1 :: .at [1,1,0,0,1,0,1,1,1] :: .rnd qD (M + 1) :: kt) (stX a y r 2 ((k : Int) - 1) o0 o1 o2 o3)
  | 0, r, o2, _, hr, he => by
    refine Ok.rnd (xgo_trim hm (F0.mono w) hfin 20 _ _ _ _ _ _ (rdigX2 a y r o0 o1 o2 o3 0 M _ kt) (paidCons (fun _ => ⟨?_, ?_⟩) paidNil))
    · simp only [hold_cons, hold_nil, and_true]
      exact fun _ _ => decide_eq_false (by omega)
    · exact next r o2 hr (by rw [he, Nat.pow_zero, Nat.div_one])
  | k + 1, r, o2, hk, hr, he => by
    have h1 : (((k + 1 : Nat) : Int) - 1) = (k : Int) := by omega
    have h2 : 64 - (k + 1) = 63 - k := by omega
    rw [h1]
    rw [h2] at he
    refine Ok.rnd (rdig_round2 hfin a y r o0 o1 o2 o3 k (k + 1) _ (by omega) hy hr (dig_bound y o2 r rin (limb a 2) k (by omega) hrin (limb_lt _ _) he) (fun r' o' hr' he' => ?_))
    exact rdig_inner2 hfin a y rin o0 o1 o3 M kt hy hrin next k r' o' (by omega) hr' (dig_step y o2 r o' r' rin (limb a 2) k (by omega) he he')
theorem rdig_inner3 {w : World} {fin : Exit → Act → World → Prop} (hfin : ∀ c (a : Act) (d : Option Tmp) (v : Value) (w : World), fin (.panic c) (a.put d v) w → fin (.panic c) a w)
    (a y rin o0 o1 o2 M : Nat) (kt : List It) (hy : y ≤ 16) (hrin : rin < y)
    (next : ∀ r' o' : Nat, r' < y → y * o' + r' = rin * 2 ^ 64 + limb a 3 → Ok Try.prog (bodyOf Try.f48) 48 (F0 w) w fin (.rnd qD (M + 1) :: kt) (stD a y r' (2) o0 o1 o2 o')) :
    ∀ (k r o3 : Nat), k ≤ 64 → r < y → y * o3 + r = rin * 2 ^ (64 - k) + limb a 3 / 2 ^ k →
    Ok Try.prog (bodyOf Try.f48) 48 (F0 w) w fin (.rnd qX (k + 2) :: .blk 2 :: .blk 1 :: .at [1,1,0,0,1,0,1,1,1] :: .rnd qD (M + 1) :: kt) (stX a y r 3 ((k : Int) - 1) o0 o1 o2 o3)
  | 0, r, o3, _, hr, he => by
    refine Ok.rnd (xgo_trim hm (F0.mono w) hfin 20 _ _ _ _ _ _ (rdigX3 a y r o0 o1 o2 o3 0 M _ kt) (paidCons (fun _ => ⟨?_, ?_⟩) paidNil))
    · simp only [hold_cons, hold_nil, and_true]
      exact fun _ _ => decide_eq_false (by omega)
    · exact next r o3 hr (by rw [he, Nat.pow_zero, Nat.div_one])
  | k + 1, r, o3, hk, hr, he => by
    have h1 : (((k + 1 : Nat) : Int) - 1) = (k : Int) := by omega
    have h2 : 64 - (k + 1) = 63 - k := by omega
    rw [h1]
    rw [h2] at he
    refine Ok.rnd (rdig_round3 hfin a y r o0 o1 o2 o3 k (k + 1) _ (by omega) hy hr (dig_bound y o3 r rin (limb a 3) k (by omega) hrin (limb_lt _ _) he) (fun r' o' hr' he' => ?_))
    exact rdig_inner3 hfin a y rin o0 o1 o2 M kt hy hrin next k r' o' (by omega) hr' (dig_step y o3 r o' r' rin (limb a 3) k (by omega) he he')
end Go.Proofs.Ytcipmpamhffclaa

namespace Go.Proofs.Ytcipmpamhffclaa
open Go.Sx Go.Pl Go.RowKit
theorem rdigO0 (a y r o0 o1 o2 o3 M : Nat) (kt : List It) : ((xgo Try.prog X (bodyOf Try.f48) 48 TE [] 20 [.t] (.nil) (.at qD :: .rnd qD (M + 1) :: kt) (stD a y r 0 o0 o1 o2 o3) [] []).map (trims [9, 8, 7, 6, 5, 4, 2, 1])) =
  some [Leaf2.mk [] [fun _ => true = true] (It.at [(0 : Nat), (1 : Nat), (0 : Nat), (0 : Nat), (1 : Nat), (0 : Nat), (0 : Nat), (1 : Nat), (0 : Nat), (1 : Nat), (1 : Nat), (1 : Nat)] :: It.blk (2 : Nat) :: It.blk (1 : Nat) :: It.at [(1 : Nat), (1 : Nat), (0 : Nat), (0 : Nat), (1 : Nat), (0 : Nat), (1 : Nat), (1 : Nat), (1 : Nat)] :: It.rnd [(0 : Nat), (0 : Nat), (1 : Nat), (0 : Nat), (1 : Nat), (1 : Nat), (1 : Nat)] (M + (1 : Nat)) :: kt) (St.mk [((9 : Nat), SV.v (Value.int IntKind.i64 (63 : Int))), ((8 : Nat), SV.v (Value.int IntKind.i64 (0 : Int))), ((7 : Nat), SV.v (Value.int IntKind.u64 (↑r : Int))), ((6 : Nat), SV.p (2 : Nat) (0 : Nat)), ((5 : Nat), SV.v (Value.int IntKind.i64 (0 : Int))), ((4 : Nat), SV.p (1 : Nat) (0 : Nat)), ((2 : Nat), SV.p (0 : Nat) (0 : Nat)), ((1 : Nat), SV.v (Value.int IntKind.u64 (↑y : Int)))] [HO.cells (ec a) (24 : Nat), HO.cells (ec (0 : Nat)) (24 : Nat), HO.cells [SV.v (Value.int IntKind.u64 (↑o0 : Int)), SV.v (Value.int IntKind.u64 (↑o1 : Int)), SV.v (Value.int IntKind.u64 (↑o2 : Int)), SV.v (Value.int IntKind.u64 (↑o3 : Int))] (24 : Nat)])]
  := by kernel_rfl

theorem rdigO1 (a y r o0 o1 o2 o3 M : Nat) (kt : List It) : ((xgo Try.prog X (bodyOf Try.f48) 48 TE [] 20 [.t] (.nil) (.at qD :: .rnd qD (M + 1) :: kt) (stD a y r 1 o0 o1 o2 o3) [] []).map (trims [9, 8, 7, 6, 5, 4, 2, 1])) =
  some [Leaf2.mk [] [fun _ => true = true] (It.at [(0 : Nat), (1 : Nat), (0 : Nat), (0 : Nat), (1 : Nat), (0 : Nat), (0 : Nat), (1 : Nat), (0 : Nat), (1 : Nat), (1 : Nat), (1 : Nat)] :: It.blk (2 : Nat) :: It.blk (1 : Nat) :: It.at [(1 : Nat), (1 : Nat), (0 : Nat), (0 : Nat), (1 : Nat), (0 : Nat), (1 : Nat), (1 : Nat), (1 : Nat)] :: It.rnd [(0 : Nat), (0 : Nat), (1 : Nat), (0 : Nat), (1 : Nat), (1 : Nat), (1 : Nat)] (M + (1 : Nat)) :: kt) (St.mk [((9 : Nat), SV.v (Value.int IntKind.i64 (63 : Int))), ((8 : Nat), SV.v (Value.int IntKind.i64 (1 : Int))), ((7 : Nat), SV.v (Value.int IntKind.u64 (↑r : Int))), ((6 : Nat), SV.p (2 : Nat) (0 : Nat)), ((5 : Nat), SV.v (Value.int IntKind.i64 (0 : Int))), ((4 : Nat), SV.p (1 : Nat) (0 : Nat)), ((2 : Nat), SV.p (0 : Nat) (0 : Nat)), ((1 : Nat), SV.v (Value.int IntKind.u64 (↑y : Int)))] [HO.cells (ec a) (24 : Nat), HO.cells (ec (0 : Nat)) (24 : Nat), HO.cells [SV.v (Value.int IntKind.u64 (↑o0 : Int)), SV.v (Value.int IntKind.u64 (↑o1 : Int)), SV.v (Value.int IntKind.u64 (↑o2 : Int)), SV.v (Value.int IntKind.u64 (↑o3 : Int))] (24 : Nat)])]
  := by kernel_rfl

theorem rdigO2 (a y r o0 o1 o2 o3 M : Nat) (kt : List It) : ((xgo Try.prog X (bodyOf Try.f48) 48 TE [] 20 [.t] (.nil) (.at qD :: .rnd qD (M + 1) :: kt) (stD a y r 2 o0 o1 o2 o3) [] []).map (trims [9, 8, 7, 6, 5, 4, 2, 1])) =
  some [Leaf2.mk [] [fun _ => true = true] (It.at [(0 : Nat), (1 : Nat), (0 : Nat), (0 : Nat), (1 : Nat), (0 : Nat), (0 : Nat), (1 : Nat), (0 : Nat), (1 : Nat), (1 : Nat), (1 : Nat)] :: It.blk (2 : Nat) :: It.blk (1 : Nat) :: It.at [(1 : Nat), (1 : Nat), (0 : Nat), (0 : Nat), (1 : Nat), (0 : Nat), (1 : Nat), (1 : Nat), (1 : Nat)] :: It.rnd [(0 : Nat), (0 : Nat), (1 : Nat), (0 : Nat), (1 : Nat), (1 : Nat), (1 : Nat)] (M + (1 : Nat)) :: kt) (St.mk [((9 : Nat), SV.v (Value.int IntKind.i64 (63 : Int))), ((8 : Nat), SV.v (Value.int IntKind.i64 (2 : Int))), ((7 : Nat), SV.v (Value.int IntKind.u64 (↑r : Int))), ((6 : Nat), SV.p (2 : Nat) (0 : Nat)), ((5 : Nat), SV.v (Value.int IntKind.i64 (0 : Int))), ((4 : Nat), SV.p (1 : Nat) (0 : Nat)), ((2 : Nat), SV.p (0 : Nat) (0 : Nat)), ((1 : Nat), SV.v (Value.int IntKind.u64 (↑y : Int)))] [HO.cells (ec a) (24 : Nat), HO.cells (ec (0 : Nat)) (24 : Nat), HO.cells [SV.v (Value.int IntKind.u64 (↑o0 : Int)), SV.v (Value.int IntKind.u64 (↑o1 : Int)), SV.v (Value.int IntKind.u64 (↑o2 : Int)), SV.v (Value.int IntKind.u64 (↑o3 : Int))] (24 : Nat)])]
  := by kernel_rfl

theorem rdigO3 (a y r o0 o1 o2 o3 M : Nat) (kt : List It) : ((xgo Try.prog X (bodyOf Try.f48) 48 TE [] 20 [.t] (.nil) (.at qD :: .rnd qD (M + 1) :: kt) (stD a y r 3 o0 o1 o2 o3) [] []).map (trims [9, 8, 7, 6, 5, 4, 2, 1])) =
  some [Leaf2.mk [] [fun _ => true = true] (It.at [(0 : Nat), (1 : Nat), (0 : Nat), (0 : Nat), (1 : Nat), (0 : Nat), (0 : Nat), (1 : Nat), (0 : Nat), (1 : Nat), (1 : Nat), (1 : Nat)] :: It.blk (2 : Nat) :: It.blk (1 : Nat) :: It.at [(1 : Nat), (1 : Nat), (0 : Nat), (0 : Nat), (1 : Nat), (0 : Nat), (1 : Nat), (1 : Nat), (1 : Nat)] :: It.rnd [(0 : Nat), (0 : Nat), (1 : Nat), (0 : Nat), (1 : Nat), (1 : Nat), (1 : Nat)] (M + (1 : Nat)) :: kt) (St.mk [((9 : Nat), SV.v (Value.int IntKind.i64 (63 : Int))), ((8 : Nat), SV.v (Value.int IntKind.i64 (3 : Int))), ((7 : Nat), SV.v (Value.int IntKind.u64 (↑r : Int))), ((6 : Nat), SV.p (2 : Nat) (0 : Nat)), ((5 : Nat), SV.v (Value.int IntKind.i64 (0 : Int))), ((4 : Nat), SV.p (1 : Nat) (0 : Nat)), ((2 : Nat), SV.p (0 : Nat) (0 : Nat)), ((1 : Nat), SV.v (Value.int IntKind.u64 (↑y : Int)))] [HO.cells (ec a) (24 : Nat), HO.cells (ec (0 : Nat)) (24 : Nat), HO.cells [SV.v (Value.int IntKind.u64 (↑o0 : Int)), SV.v (Value.int IntKind.u64 (↑o1 : Int)), SV.v (Value.int IntKind.u64 (↑o2 : Int)), SV.v (Value.int IntKind.u64 (↑o3 : Int))] (24 : Nat)])]
  := by kernel_rfl

theorem rdigStart (a y : Nat) : ((xgo Try.prog X (bodyOf Try.f48) 48 TE [] 50 [] (Tree.nil) [.at []] ⟨argsTm 0 [el a, .int .u64 (y : Int)], []⟩ [] []).map (trims [8, 7, 6, 5, 4, 2, 1])) =
  some [Leaf2.mk [] [fun _ => (4 : Nat) ≤ (4 : Nat)] [It.at [(0 : Nat), (1 : Nat), (0 : Nat), (1 : Nat), (1 : Nat), (1 : Nat)], It.blk (0 : Nat), It.at [(1 : Nat), (1 : Nat), (1 : Nat), (1 : Nat)]] (St.mk [((8 : Nat), SV.v (Value.int IntKind.i64 (3 : Int))), ((7 : Nat), SV.v (Value.int IntKind.u64 (0 : Int))), ((6 : Nat), SV.p (2 : Nat) (0 : Nat)), ((5 : Nat), SV.v (Value.int IntKind.i64 (0 : Int))), ((4 : Nat), SV.p (1 : Nat) (0 : Nat)), ((2 : Nat), SV.p (0 : Nat) (0 : Nat)), ((1 : Nat), SV.v (Value.int IntKind.u64 (↑y : Int)))] [HO.cells (ec a) (24 : Nat), HO.cells [SV.v (Value.int IntKind.u64 (0 : Int)), SV.v (Value.int IntKind.u64 (0 : Int)), SV.v (Value.int IntKind.u64 (0 : Int)), SV.v (Value.int IntKind.u64 (0 : Int))] (24 : Nat), HO.cells [SV.v (Value.int IntKind.u64 (0 : Int)), SV.v (Value.int IntKind.u64 (0 : Int)), SV.v (Value.int IntKind.u64 (0 : Int)), SV.v (Value.int IntKind.u64 (0 : Int))] (24 : Nat)])]
  := by kernel_rfl

theorem rdigEnd (a y r o0 o1 o2 o3 M : Nat) : (((xgo Try.prog X (bodyOf Try.f48) 48 TE [] 20 [.f] (.nil) [.at qD, .rnd qD M, .blk 0, .at [1,1,1,1]] (stD a y r (-1) o0 o1 o2 o3) [] []).bind (ends Try.prog Try.f48.results.toList)).bind plainE) =
  some [EndP.mk [] [fun _ => false = false,
    fun _ => (0 : Nat) + (4 : Nat) ≤ (4 : Nat)] (Res.v (Value.tuple (Array.mk [Value.agg (Array.mk [Value.int IntKind.u64 (↑o0 : Int), Value.int IntKind.u64 (↑o1 : Int), Value.int IntKind.u64 (↑o2 : Int), Value.int IntKind.u64 (↑o3 : Int)]), Value.int IntKind.i64 (IntKind.wrap IntKind.i64 (↑r : Int))])))]
  := by kernel_rfl

theorem rdig_ok (a y : Nat) (ha : a < top) (hy : y = 10 ∨ y = 16) (w : World) : Calls Try.prog 48 [el a, .int .u64 (y : Int)].toArray w (fun E w' => ∃ v, E = .returned v ∧ Res.ok w w' (.v (.tuple #[el (a / y), .int .i64 ((a % y : Nat) : Int)])) v ∧ Below w.heap.size w w') := by
  have hyp : 0 < y := by omega
  have hy16 : y ≤ 16 := by omega
  have hs := nv_self a ha
  have dz : ∀ i : Nat, limb a i / 2 ^ 64 = 0 := fun i => Nat.div_eq_of_lt (limb_lt a i)
  have hF := F0.mono w
  have h64 : (2 : Nat) ^ 64 = 18446744073709551616 := by decide
  refine con_end (calls_of_ok (B := bodyOf Try.f48) (n := 48) Try.func48 (by kernel_rfl) rfl rfl (F := F0 w) (fun _ _ h => h) ?_)
  refine xgo_trim hm hF finB 50 _ _ _ _ _ _ (rdigStart a y) (paidCons (fun _ => ⟨?_, ?_⟩) paidNil)
  · simp only [hold_cons, hold_nil, and_true]
    exact fun _ _ => by omega
  refine ok_mono (st := stD a y 0 3 0 0 0 0) ?_ (Ok.loop 5 (by kernel_rfl) (Ok.rnd ?_))
  · simp only [stD, hpD, ec_zero]
    rfl
  refine xgo_trim hm hF finB 20 _ _ _ _ _ _ (rdigO3 a y 0 0 0 0 0 3 _) (paidCons (fun _ => ⟨by simp only [hold_cons, hold_nil, and_true, implies_true], ?_⟩) paidNil)
  refine ok_mono (st := stX a y 0 3 ((64 : Nat) - 1 : Int) 0 0 0 0) rfl (Ok.loop 66 (by kernel_rfl) (rdig_inner3 finB a y 0 0 0 0 3 _ hy16 hyp (fun r3 q3 hr3 he3 => Ok.rnd ?_) 64 0 0 (Nat.le_refl _) hyp (by rw [dz, Nat.sub_self, Nat.pow_zero]; omega)))
  refine xgo_trim hm hF finB 20 _ _ _ _ _ _ (rdigO2 a y r3 0 0 0 q3 2 _) (paidCons (fun _ => ⟨by simp only [hold_cons, hold_nil, and_true, implies_true], ?_⟩) paidNil)
  refine ok_mono (st := stX a y r3 2 ((64 : Nat) - 1 : Int) 0 0 0 q3) rfl (Ok.loop 66 (by kernel_rfl) (rdig_inner2 finB a y r3 0 0 q3 2 _ hy16 hr3 (fun r2 q2 hr2 he2 => Ok.rnd ?_) 64 r3 0 (Nat.le_refl _) hr3 (by rw [dz, Nat.sub_self, Nat.pow_zero]; omega)))
  refine xgo_trim hm hF finB 20 _ _ _ _ _ _ (rdigO1 a y r2 0 0 q2 q3 1 _) (paidCons (fun _ => ⟨by simp only [hold_cons, hold_nil, and_true, implies_true], ?_⟩) paidNil)
  refine ok_mono (st := stX a y r2 1 ((64 : Nat) - 1 : Int) 0 0 q2 q3) rfl (Ok.loop 66 (by kernel_rfl) (rdig_inner1 finB a y r2 0 q2 q3 1 _ hy16 hr2 (fun r1 q1 hr1 he1 => Ok.rnd ?_) 64 r2 0 (Nat.le_refl _) hr2 (by rw [dz, Nat.sub_self, Nat.pow_zero]; omega)))
  refine xgo_trim hm hF finB 20 _ _ _ _ _ _ (rdigO0 a y r1 0 q1 q2 q3 0 _) (paidCons (fun _ => ⟨by simp only [hold_cons, hold_nil, and_true, implies_true], ?_⟩) paidNil)
  refine ok_mono (st := stX a y r1 0 ((64 : Nat) - 1 : Int) 0 q1 q2 q3) rfl (Ok.loop 66 (by kernel_rfl) (rdig_inner0 finB a y r1 q1 q2 q3 0 _ hy16 hr1 (fun r0 q0 hr0 he0 => Ok.rnd ?_) 64 r1 0 (Nat.le_refl _) hr1 (by rw [dz, Nat.sub_self, Nat.pow_zero]; omega)))
  rw [h64] at he0 he1 he2 he3
  have hq := divide_num y (limb a 0) (limb a 1) (limb a 2) (limb a 3) q0 q1 q2 q3 r0 r1 r2 r3 (by rw [he3]) (by rw [he2, Nat.mul_comm r3]) (by rw [he1, Nat.mul_comm r2]) (by rw [he0, Nat.mul_comm r1])
  rw [hs] at hq
  obtain ⟨hd, hmd⟩ := div_mod_of hyp hq hr0
  have bq : ∀ (q r rin x : Nat), rin < y → x < 18446744073709551616 → y * q + r = rin * 18446744073709551616 + x → q < 18446744073709551616 := by
    intro q r rin x h1 h2 h3
    have h4 : (rin + 1) * 18446744073709551616 ≤ y * 18446744073709551616 := Nat.mul_le_mul_right _ h1
    exact Nat.lt_of_mul_lt_mul_left (by omega : y * q < y * 18446744073709551616)
  have b0 := bq q0 r0 r1 _ hr1 (limb_lt a 0) he0
  have b1 := bq q1 r1 r2 _ hr2 (limb_lt a 1) he1
  have b2 := bq q2 r2 r3 _ hr3 (limb_lt a 2) he2
  have b3 := bq q3 r3 0 _ hyp (limb_lt a 3) he3
  refine ok_plain hm hF (fun _ h => h) 20 _ _ _ _ (rdigEnd a y r0 q0 q1 q2 q3 0) ⟨fun _ => ⟨?_, ?_⟩, trivial⟩
  · simp only [hold_cons, hold_nil, and_true]
    exact ⟨fun _ _ => trivial, fun _ _ => by omega⟩
  · rw [hd, hmd, el_nv b0 b1 b2 b3, wrap_i64 r0 (by omega)]
end Go.Proofs.Ytcipmpamhffclaa

namespace Go.Proofs.Ytcipmpamhffclaa
open Go.Sx Go.Pl Go.RowKit
noncomputable def gRDigit : List RV → Option (Res × Prop)
  | [.v x, .v (.int .u64 y)] => match unEl x with
    | some a => some (.v (.tuple #[el (a / y.toNat), .int .i64 ((hide (a % y.toNat) : Nat) : Int)]), x = el a ∧ y = (y.toNat : Int) ∧ (y.toNat = 10 ∨ y.toNat = 16) ∧ a < top)
    | _ => none
  | _ => none
theorem gRDigit_ok (rvs : List RV) (r : Res) (p : Prop) (vs : List Value) (w : World) (hg : gRDigit rvs = some (r, p)) (hp : p) (hv : RVs (wmem w) rvs vs) : Calls Try.prog 48 vs.toArray w (fun E w' => ∃ v, E = .returned v ∧ r.ok w w' v ∧ Below w.heap.size w w') := by
  unfold gRDigit at hg
  split at hg
  · rename_i x y
    split at hg
    · simp only [Option.some.injEq, Prod.mk.injEq] at hg
      obtain ⟨rfl, rfl⟩ := hg
      obtain ⟨h1, h3, h4, h6⟩ := hp
      rw [rvs2 hv, h1, hide_eq]
      have := rdig_ok _ _ h6 h4 w
      rw [← h3] at this
      exact this
    · cases hg
  · cases hg
noncomputable def TF : Con Try.prog := TE.add 48 gRDigit gRDigit_ok
end Go.Proofs.Ytcipmpamhffclaa

namespace Go.Pl
open Go.Sx
/-- The letters of the digits. -/
def allB : ByteArray := ByteArray.mk (Array.mk [48, 49, 50, 51, 52, 53, 54, 55, 56, 57, 97, 98, 99, 100, 101, 102])
end Go.Pl
namespace Go.Proofs.Ytcipmpamhffclaa
open Go.Sx Go.Pl Go.RowKit
def qZ : List Nat := [0,0,1,1,1,1]
noncomputable def stZ (a y : Nat) (s : ByteArray) : St :=
  ⟨[(7, .p 1 0), (6, .v (.string s)), (5, .v (.string allB)), (2, .p 0 0), (1, .v (.int .u64 (y : Int)))], [.cells (ec a) 24, .cells (ec 0) 24]⟩
end Go.Proofs.Ytcipmpamhffclaa
