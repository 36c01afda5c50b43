/- Remainders: the inner loop. -/
import Derived.Test.YtcipmpamhffclaaW8
namespace Go.Proofs.Ytcipmpamhffclaa
open Go.Sx Go.Pl Go.RowKit
def qI : List Nat := [0,0,1,1,0,0,1,1,0,0,1,0,1,1,1]
theorem wrap_pred (n : Nat) (hn : n < 256) : IntKind.wrap IntKind.i64 ((n : Int) - 1) = (n : Int) - 1 := by
  cases n with
  | zero => rfl
  | succ k =>
    have h1 : ((k + 1 : Nat) : Int) - 1 = (k : Int) := by omega
    rw [h1]
    simp [IntKind.wrap, IntKind.bits, IntKind.signed]
    omega
theorem ec_cells {x y : Nat} (h : x % top = y % top) : ec x = ec y := by
  obtain ⟨a0, a1, a2, a3⟩ := limb_mod x
  obtain ⟨b0, b1, b2, b3⟩ := limb_mod y
  rw [h] at a0 a1 a2 a3
  simp only [ec, ← a0, ← a1, ← a2, ← a3, b0, b1, b2, b3]
theorem top_bit (r : Nat) (hr : r < top) : limb r 3 / 9223372036854775808 = 0 ↔ 2 * r < top := by
  rw [limb3]
  simp only [top] at *
  omega
theorem mod_once {x m : Nat} (h1 : m ≤ x) (h2 : x < 2 * m) : x % m = x - m := by
  rw [Nat.mod_eq_sub_mod h1, Nat.mod_eq_of_lt (by omega)]
theorem arithA (r m b : Nat) (hr : r < m) (hm : m < top) (hb : b ≤ 1) (h : ¬ 2 * r < top) : ((2 * r + b) % top + top - m) % top = ((2 * r + b) % m) % top := by
  rw [mod_once (x := 2 * r + b) (m := m) (by omega) (by omega), mod_once (x := 2 * r + b) (m := top) (by omega) (by omega), show 2 * r + b - top + top - m = 2 * r + b - m by omega]
theorem arithB (r m b : Nat) (hr : r < m) (hb : b ≤ 1) (h : 2 * r < top) (h2 : ¬ (2 * r + b) % top < m) : ((2 * r + b) % top + top - m) % top = ((2 * r + b) % m) % top := by
  have h3 : 2 * r + b < top := by simp only [top] at *; omega
  rw [Nat.mod_eq_of_lt h3] at *
  rw [mod_once (x := 2 * r + b) (m := m) (by omega) (by omega), show 2 * r + b + top - m = 2 * r + b - m + top by omega, Nat.add_mod_right]
theorem arithC (r m b : Nat) (hb : b ≤ 1) (h : 2 * r < top) (h2 : (2 * r + b) % top < m) : (2 * r + b) % top = ((2 * r + b) % m) % top := by
  have h3 : 2 * r + b < top := by simp only [top] at *; omega
  rw [Nat.mod_eq_of_lt h3] at *
  rw [Nat.mod_eq_of_lt h2, Nat.mod_eq_of_lt h3]
theorem rem_round {F : Mem → Prop} (hF : Mono F) {w0 : World} {fin : Exit → Act → World → Prop} (hfin : ∀ c (a : Act) (d : Option Tmp) (v : Value) (w : World), fin (.panic c) (a.put d v) w → fin (.panic c) a w)
    (a b m h r n M : Nat) (j : Int) (kt : List It) (hn : n < 256) (hmt : m < top) (hr : r < m)
    (next : Ok Try.prog (bodyOf Try.f20) 57 F w0 fin (.rnd qI (M + 1) :: kt) (stI a b m h ((2 * r + bitOf h n) % m) j ((n : Int) - 1))) :
    Ok Try.prog (bodyOf Try.f20) 57 F w0 fin (.at qI :: .rnd qI (M + 1) :: kt) (stI a b m h r j (n : Int)) := by
  obtain ⟨g1, g2, g3, g4⟩ := getLimb h n hn
  have hb := bitOf_le h n
  have hrt : r < top := by omega
  have hrm := Nat.mod_eq_of_lt hrt
  have hmt2 : m < 115792089237316195423570985008687907853269984665640564039457584007913129639936 := hmt
  have hrt2 : r < 115792089237316195423570985008687907853269984665640564039457584007913129639936 := hrt
  have hmm := Nat.mod_eq_of_lt hmt
  have hwp := wrap_pred n hn
  have key : ∀ (x : Nat) (tm : List (Nat × SV)) (hp : List HO), x % top = ((2 * r + bitOf h n) % m) % top →
      RenT [0,1,2,3,4,5] tm (stI a b m h x j ((n : Int) - 1)).tm → RenH [0,1,2,3,4,5] hp (stI a b m h x j ((n : Int) - 1)).heap [0,1,2,3,4,5] → Ok Try.prog (bodyOf Try.f20) 57 F w0 fin (.rnd qI (M + 1) :: kt) ⟨tm, hp⟩ := by
    intro x tm hp hx h1 h2
    have he : stI a b m h x j ((n : Int) - 1) = stI a b m h ((2 * r + bitOf h n) % m) j ((n : Int) - 1) := by
      simp only [stI, ec_cells hx]
    rw [he] at h1 h2
    exact Ok.weaken hF [0,1,2,3,4,5] _ h1 h2 rfl (by
      simp [stI, wsAllT, wsAllH, ws, wsL, HO.ws, ec]) next
  refine (xgo_sound hm hF hfin 30 _ _ _ _ [] [] _ (remRound a b m h r n M j kt) (paid_cons (fun has => ⟨?_, ?_⟩) (paid_cons (fun has => ⟨?_, ?_⟩) (paid_cons (fun has => ⟨?_, ?_⟩) paid_nil))) (fun a ha => by cases ha)).2
  · simp only [hold_cons, hold_nil, and_true, Int.toNat_natCast, nv_limb, el_mod, bit_expr, hrm, hmm]
    repeat' apply And.intro
    all_goals (intro _ _; first | exact g1 | trivial | exact g2 | exact g4 | exact ⟨g2, g3⟩ | exact has _ List.mem_cons_self | exact has _ (List.mem_cons_of_mem _ List.mem_cons_self) | (refine ⟨rfl, ?_⟩; omega) | exact ⟨rfl, rfl, Nat.mod_lt _ top_pos, hmt2⟩ | exact ⟨rfl, rfl, hrt2, hb⟩ | exact decide_eq_true (by omega) | omega | rfl | skip)
  · refine key ((2 * r + bitOf h n) % top + top - m) _ _ ?_ ?_ ?_
    · exact arithA r m (bitOf h n) hr hmt hb (fun hh => by have := has _ List.mem_cons_self; rw [(top_bit r hrt).2 hh] at this; simp at this)
    · exact ⟨congrArg (fun z => some (SV.v (Value.int IntKind.i64 z))) hwp, rfl, rfl, rfl, rfl, rfl, rfl, rfl, trivial⟩
    · exact ⟨rfl, rfl, rfl, rfl, rfl, rfl, trivial⟩
  · simp only [hold_cons, hold_nil, and_true, Int.toNat_natCast, nv_limb, el_mod, bit_expr, hrm, hmm]
    repeat' apply And.intro
    all_goals (intro _ _; first | exact g1 | trivial | exact g2 | exact g4 | exact ⟨g2, g3⟩ | exact has _ List.mem_cons_self | exact has _ (List.mem_cons_of_mem _ List.mem_cons_self) | (refine ⟨rfl, ?_⟩; omega) | exact ⟨rfl, rfl, Nat.mod_lt _ top_pos, hmt2⟩ | exact ⟨rfl, rfl, hrt2, hb⟩ | exact decide_eq_true (by omega) | omega | rfl | skip)
  · refine key ((2 * r + bitOf h n) % top + top - m) _ _ ?_ ?_ ?_
    · exact arithB r m (bitOf h n) hr hb ((top_bit r hrt).1 (by have h0 := has _ List.mem_cons_self; have h1 : ((limb r 3 / 9223372036854775808 : Nat) : Int) = 0 := (by simpa only [Bool.not_eq_false', beq_iff_eq] using h0); omega)) (fun hh => by have h0 := has _ (List.mem_cons_of_mem _ List.mem_cons_self); simp only [Bool.not_eq_true', decide_eq_false_iff_not] at h0; exact h0 hh)
    · exact ⟨congrArg (fun z => some (SV.v (Value.int IntKind.i64 z))) hwp, rfl, rfl, rfl, rfl, rfl, rfl, rfl, trivial⟩
    · exact ⟨rfl, rfl, rfl, rfl, rfl, rfl, trivial⟩
  · simp only [hold_cons, hold_nil, and_true, Int.toNat_natCast, nv_limb, el_mod, bit_expr, hrm, hmm]
    repeat' apply And.intro
    all_goals (intro _ _; first | exact g1 | trivial | exact g2 | exact g4 | exact ⟨g2, g3⟩ | exact has _ List.mem_cons_self | exact has _ (List.mem_cons_of_mem _ List.mem_cons_self) | (refine ⟨rfl, ?_⟩; omega) | exact ⟨rfl, rfl, Nat.mod_lt _ top_pos, hmt2⟩ | exact ⟨rfl, rfl, hrt2, hb⟩ | exact decide_eq_true (by omega) | omega | rfl | skip)
  · refine key (2 * r + bitOf h n) _ _ ?_ ?_ ?_
    · exact arithC r m (bitOf h n) hb ((top_bit r hrt).1 (by have h0 := has _ List.mem_cons_self; have h1 : ((limb r 3 / 9223372036854775808 : Nat) : Int) = 0 := (by simpa only [Bool.not_eq_false', beq_iff_eq] using h0); omega)) (by have h0 := has _ (List.mem_cons_of_mem _ List.mem_cons_self); simp only [Bool.not_eq_false', decide_eq_true_eq] at h0; exact h0)
    · exact ⟨congrArg (fun z => some (SV.v (Value.int IntKind.i64 z))) hwp, rfl, rfl, rfl, rfl, rfl, rfl, rfl, trivial⟩
    · exact ⟨rfl, rfl, rfl, rfl, rfl, rfl, trivial⟩
end Go.Proofs.Ytcipmpamhffclaa
