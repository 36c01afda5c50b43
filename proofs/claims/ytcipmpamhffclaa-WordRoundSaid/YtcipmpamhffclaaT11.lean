/- A bit of a number. -/
import Derived.Test.YtcipmpamhffclaaT10
namespace Go.Proofs.Ytcipmpamhffclaa
open Go.Sx Go.Pl Go.RowKit
theorem run29a (a n : Nat) : (((xgo Try.prog X (bodyOf Try.f29) 22 TE [] 50 [.t,.t,.lo 0 (.v (.int .u64 ((limb a (n / 64) : Nat) : Int)))] (.nil) [.at []] ⟨argsTm 0 [el a, .int .i64 (n : Int)], []⟩ [] []).bind (ends Try.prog Try.f29.results.toList)).bind plainE) =
  some [EndP.mk [] [fun _ => decide ((0 : Int) ≤ (↑n : Int)) = true,
    fun _ => decide ((↑n : Int) < (256 : Int)) = true,
    fun _ => ¬(64 : Int) = (0 : Int),
    fun _ => (0 : Int) ≤ IntKind.wrap IntKind.i64 (Int.tdiv (↑n : Int) (64 : Int)) ∧ IntKind.wrap IntKind.i64 (Int.tdiv (↑n : Int) (64 : Int)) < (4 : Int),
    fun _ => (ec a)[(0 : Nat) + Int.toNat (IntKind.wrap IntKind.i64 (Int.tdiv (↑n : Int) (64 : Int))) * (1 : Nat)]? = some (SV.v (Value.int IntKind.u64 (↑(limb a (n / (64 : Nat))) : Int))),
    fun _ => ¬(64 : Int) = (0 : Int),
    fun _ => ¬Int.tmod (↑n : Int) (64 : Int) < (0 : Int)] (Res.v (Value.bool (IntKind.wrap IntKind.u64 (↑(Int.toNat (Int.fdiv (↑(limb a (n / (64 : Nat))) : Int) ((2 : Int) ^ if Int.toNat (Int.tmod (↑n : Int) (64 : Int)) ≤ (64 : Nat) then Int.toNat (Int.tmod (↑n : Int) (64 : Int)) else (64 : Nat)) % (18446744073709551616 : Int)) &&& (1 : Nat)) : Int) == (1 : Int))))]
  := by kernel_rfl

theorem run29b (a : Nat) (i : Int) : (((xgo Try.prog X (bodyOf Try.f29) 22 TE [] 50 [.t,.f] (.nil) [.at []] ⟨argsTm 0 [el a, .int .i64 i], []⟩ [] []).bind (ends Try.prog Try.f29.results.toList)).bind plainE) =
  some [EndP.mk [] [fun _ => decide ((0 : Int) ≤ i) = true,
    fun _ => decide (i < (256 : Int)) = false] (Res.v (Value.bool false))]
  := by kernel_rfl

theorem run29c (a : Nat) (i : Int) : (((xgo Try.prog X (bodyOf Try.f29) 22 TE [] 50 [.f,.f] (.nil) [.at []] ⟨argsTm 0 [el a, .int .i64 i], []⟩ [] []).bind (ends Try.prog Try.f29.results.toList)).bind plainE) =
  some [EndP.mk [] [fun _ => decide ((0 : Int) ≤ i) = false,
    fun _ => false = false] (Res.v (Value.bool false))]
  := by kernel_rfl

theorem bit_ok (a : Nat) (i : Int) (w : World) : Calls Try.prog 29 [el a, .int .i64 i].toArray w (fun E w' => ∃ v, E = .returned v ∧ Res.ok w w' (.v (.bool (decide (0 ≤ i ∧ i < 256 ∧ a / 2 ^ i.toNat % 2 = 1)))) v ∧ Below w.heap.size w w') := by
  by_cases h0 : 0 ≤ i
  · by_cases h1 : i < 256
    · obtain ⟨n, rfl⟩ := Int.eq_ofNat_of_zero_le h0
      have hn : n < 256 := by omega
      obtain ⟨g1, g2, g3, g4⟩ := getLimb a n hn
      have e1 : Int.tmod (n : Int) (64 : Int) = ((n % 64 : Nat) : Int) := tmodNat n 64
      refine con_end (calls_plain hm Try.func29 (by kernel_rfl) rfl rfl 50 _ _ (run29a a n) ⟨fun _ => ⟨?_, ?_⟩, trivial⟩)
      · simp only [hold_cons, hold_nil, and_true]
        exact ⟨fun _ _ => decide_eq_true (by omega), fun _ _ => decide_eq_true (by omega), fun _ _ => by omega, fun _ _ => ⟨g2, g3⟩, fun _ _ => g1, fun _ _ => by omega, fun _ _ => by rw [e1]; omega⟩
      · rw [bit_expr, bitOf_eq]
        refine congrArg (fun x => Res.v (Value.bool x)) ?_
        rw [Bool.eq_iff_iff, decide_eq_true_iff, beq_iff_eq, Int.toNat_natCast]
        constructor
        · intro h
          exact ⟨h0, h1, by omega⟩
        · intro h
          have := h.2.2
          omega
    · refine con_end (calls_plain hm Try.func29 (by kernel_rfl) rfl rfl 50 _ _ (run29b a i) ⟨fun _ => ⟨?_, ?_⟩, trivial⟩)
      · simp only [hold_cons, hold_nil, and_true]
        exact ⟨fun _ _ => decide_eq_true h0, fun _ _ => decide_eq_false h1⟩
      · rw [decide_eq_false (fun h => h1 h.2.1)]
  · refine con_end (calls_plain hm Try.func29 (by kernel_rfl) rfl rfl 50 _ _ (run29c a i) ⟨fun _ => ⟨?_, ?_⟩, trivial⟩)
    · simp only [hold_cons, hold_nil, and_true]
      exact ⟨fun _ _ => decide_eq_false h0, fun _ _ => trivial⟩
    · rw [decide_eq_false (fun h => h0 h.1)]
end Go.Proofs.Ytcipmpamhffclaa
