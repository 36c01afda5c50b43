/- The law of the texts, walked: it answers true. -/
import Derived.Test.YtcipmpamhffclaaT20
import Derived.Test.YtcipmpamhffclaaB21
namespace Go.Pl
open Go.Sx
theorem el255 : Value.agg (Array.mk [Value.int IntKind.u64 (255 : Int), Value.int IntKind.u64 (0 : Int), Value.int IntKind.u64 (0 : Int), Value.int IntKind.u64 (0 : Int)]) = el (255 : Nat) := by
  simp [el, limb, hide_eq]
theorem xstr255 : xstr0 255 = ByteArray.mk (Array.mk [48, 120, 102, 102]) := by
  have h : dgo 16 256 (255 / 16) [255 % 16] = [15, 15] := by decide +kernel
  rw [xstr0, dstr, h]
  simp only [hidB_eq]
  decide +kernel
theorem xstr255L : (!ByteArray.toList (xstr0 (255 : Nat)) == [ByteArray.get! (ByteArray.mk (Array.mk [OfNat.ofNat (48 : Nat), OfNat.ofNat (120 : Nat), OfNat.ofNat (102 : Nat), OfNat.ofNat (102 : Nat)])) (0 : Nat), ByteArray.get! (ByteArray.mk (Array.mk [OfNat.ofNat (48 : Nat), OfNat.ofNat (120 : Nat), OfNat.ofNat (102 : Nat), OfNat.ofNat (102 : Nat)])) (1 : Nat), ByteArray.get! (ByteArray.mk (Array.mk [OfNat.ofNat (48 : Nat), OfNat.ofNat (120 : Nat), OfNat.ofNat (102 : Nat), OfNat.ofNat (102 : Nat)])) (2 : Nat), ByteArray.get! (ByteArray.mk (Array.mk [OfNat.ofNat (48 : Nat), OfNat.ofNat (120 : Nat), OfNat.ofNat (102 : Nat), OfNat.ofNat (102 : Nat)])) (3 : Nat)]) = false := by
  rw [xstr255]
  decide +kernel
end Go.Pl
namespace Go.Proofs.Ytcipmpamhffclaa
open Go.Sx Go.Pl Go.RowKit
theorem and255 (k : Nat) (h : k < 256) : IntKind.wrap IntKind.i64 (↑(Int.toNat (((k : Nat) : Int) % (18446744073709551616 : Int)) &&& (255 : Nat)) : Int) = (k : Int) := by
  have h1 : Int.toNat (((k : Nat) : Int) % (18446744073709551616 : Int)) = k := by omega
  rw [h1, show (255 : Nat) = 2 ^ 8 - 1 from rfl, Nat.and_two_pow_sub_one_eq_mod, Nat.mod_eq_of_lt (by omega), wrap_i64 k (by omega)]
theorem run9a (a : Nat) (i : Int) : (((xgo Try.prog X (bodyOf Try.f9) 47 TH [] 60 [.f, .f, .f, .f, .t, .t] (.nil) [.at []] ⟨argsTm 0 [el a, .int .i64 i], []⟩ [] []).bind (ends Try.prog Try.f9.results.toList)).bind plainE) =
  some [EndP.mk [] [fun _ => ([] : List RV) = [],
    fun _ => false = false,
    fun _ => Value.agg (Array.mk [Value.int IntKind.u64 (255 : Int), Value.int IntKind.u64 (0 : Int), Value.int IntKind.u64 (0 : Int), Value.int IntKind.u64 (0 : Int)]) = el (255 : Nat) ∧ (255 : Nat) < top,
    fun _ => (!ByteArray.toList (xstr0 (255 : Nat)) == [ByteArray.get! (ByteArray.mk (Array.mk [OfNat.ofNat (48 : Nat), OfNat.ofNat (120 : Nat), OfNat.ofNat (102 : Nat), OfNat.ofNat (102 : Nat)])) (0 : Nat), ByteArray.get! (ByteArray.mk (Array.mk [OfNat.ofNat (48 : Nat), OfNat.ofNat (120 : Nat), OfNat.ofNat (102 : Nat), OfNat.ofNat (102 : Nat)])) (1 : Nat), ByteArray.get! (ByteArray.mk (Array.mk [OfNat.ofNat (48 : Nat), OfNat.ofNat (120 : Nat), OfNat.ofNat (102 : Nat), OfNat.ofNat (102 : Nat)])) (2 : Nat), ByteArray.get! (ByteArray.mk (Array.mk [OfNat.ofNat (48 : Nat), OfNat.ofNat (120 : Nat), OfNat.ofNat (102 : Nat), OfNat.ofNat (102 : Nat)])) (3 : Nat)]) = false,
    fun _ => decide ((0 : Int) ≤ i) = false,
    fun _ => false = false,
    fun _ => el a = el (elN a) ∧ elN a < top,
    fun _ => el a = el (elN a) ∧ elN a < top,
    fun _ => (ByteArray.toList (dstr (10 : Nat) (elN a)) == ByteArray.toList (dstr (10 : Nat) (elN a))) = true,
    fun _ => el a = el (elN a) ∧ elN a < top,
    fun _ => el a = el (elN a) ∧ elN a < top,
    fun _ => (ByteArray.toList (xstr0 (elN a)) == ByteArray.toList (xstr0 (elN a))) = true,
    fun _ => el a = el (elN a)] (Res.v (Value.bool (hasBit (elN a) i == false)))]
  := by kernel_rfl

theorem run9b (a : Nat) (i : Int) : (((xgo Try.prog X (bodyOf Try.f9) 47 TH [] 60 [.f, .f, .t, .f, .t, .t] (.nil) [.at []] ⟨argsTm 0 [el a, .int .i64 i], []⟩ [] []).bind (ends Try.prog Try.f9.results.toList)).bind plainE) =
  some [EndP.mk [] [fun _ => ([] : List RV) = [],
    fun _ => false = false,
    fun _ => Value.agg (Array.mk [Value.int IntKind.u64 (255 : Int), Value.int IntKind.u64 (0 : Int), Value.int IntKind.u64 (0 : Int), Value.int IntKind.u64 (0 : Int)]) = el (255 : Nat) ∧ (255 : Nat) < top,
    fun _ => (!ByteArray.toList (xstr0 (255 : Nat)) == [ByteArray.get! (ByteArray.mk (Array.mk [OfNat.ofNat (48 : Nat), OfNat.ofNat (120 : Nat), OfNat.ofNat (102 : Nat), OfNat.ofNat (102 : Nat)])) (0 : Nat), ByteArray.get! (ByteArray.mk (Array.mk [OfNat.ofNat (48 : Nat), OfNat.ofNat (120 : Nat), OfNat.ofNat (102 : Nat), OfNat.ofNat (102 : Nat)])) (1 : Nat), ByteArray.get! (ByteArray.mk (Array.mk [OfNat.ofNat (48 : Nat), OfNat.ofNat (120 : Nat), OfNat.ofNat (102 : Nat), OfNat.ofNat (102 : Nat)])) (2 : Nat), ByteArray.get! (ByteArray.mk (Array.mk [OfNat.ofNat (48 : Nat), OfNat.ofNat (120 : Nat), OfNat.ofNat (102 : Nat), OfNat.ofNat (102 : Nat)])) (3 : Nat)]) = false,
    fun _ => decide ((0 : Int) ≤ i) = true,
    fun _ => decide (i < (256 : Int)) = false,
    fun _ => el a = el (elN a) ∧ elN a < top,
    fun _ => el a = el (elN a) ∧ elN a < top,
    fun _ => (ByteArray.toList (dstr (10 : Nat) (elN a)) == ByteArray.toList (dstr (10 : Nat) (elN a))) = true,
    fun _ => el a = el (elN a) ∧ elN a < top,
    fun _ => el a = el (elN a) ∧ elN a < top,
    fun _ => (ByteArray.toList (xstr0 (elN a)) == ByteArray.toList (xstr0 (elN a))) = true,
    fun _ => el a = el (elN a)] (Res.v (Value.bool (hasBit (elN a) i == false)))]
  := by kernel_rfl

theorem run9c (a x k : Nat) (i : Int) : (((xgo Try.prog X (bodyOf Try.f9) 47 TH [] 60 [.f, .f, .t, .t, .as 23 (.v (.int .i64 (k : Int))), .lo 1 (.v (.int .i64 ((x : Nat) : Int))), .t, .t] (.nil) [.at []] ⟨argsTm 0 [el a, .int .i64 i], []⟩ [] []).bind (ends Try.prog Try.f9.results.toList)).bind plainE) =
  some [EndP.mk [] [fun _ => ([] : List RV) = [],
    fun _ => false = false,
    fun _ => Value.agg (Array.mk [Value.int IntKind.u64 (255 : Int), Value.int IntKind.u64 (0 : Int), Value.int IntKind.u64 (0 : Int), Value.int IntKind.u64 (0 : Int)]) = el (255 : Nat) ∧ (255 : Nat) < top,
    fun _ => (!ByteArray.toList (xstr0 (255 : Nat)) == [ByteArray.get! (ByteArray.mk (Array.mk [OfNat.ofNat (48 : Nat), OfNat.ofNat (120 : Nat), OfNat.ofNat (102 : Nat), OfNat.ofNat (102 : Nat)])) (0 : Nat), ByteArray.get! (ByteArray.mk (Array.mk [OfNat.ofNat (48 : Nat), OfNat.ofNat (120 : Nat), OfNat.ofNat (102 : Nat), OfNat.ofNat (102 : Nat)])) (1 : Nat), ByteArray.get! (ByteArray.mk (Array.mk [OfNat.ofNat (48 : Nat), OfNat.ofNat (120 : Nat), OfNat.ofNat (102 : Nat), OfNat.ofNat (102 : Nat)])) (2 : Nat), ByteArray.get! (ByteArray.mk (Array.mk [OfNat.ofNat (48 : Nat), OfNat.ofNat (120 : Nat), OfNat.ofNat (102 : Nat), OfNat.ofNat (102 : Nat)])) (3 : Nat)]) = false,
    fun _ => decide ((0 : Int) ≤ i) = true,
    fun _ => decide (i < (256 : Int)) = true,
    fun _ => el a = el (elN a),
    fun _ => Value.int IntKind.i64 (IntKind.wrap IntKind.i64 (↑(Int.toNat (i % (18446744073709551616 : Int)) &&& (255 : Nat)) : Int)) = Value.int IntKind.i64 (↑k : Int),
    fun _ => (0 : Int) ≤ (↑k : Int) ∧ (↑k : Int) < (256 : Int),
    fun _ => (0 : Nat) < List.length (mapv (hvs (bl (nb (elN a) (256 : Nat))))),
    fun _ => (mapv (hvs (bl (nb (elN a) (256 : Nat)))))[Int.toNat (↑k : Int) * (1 : Nat)]? = some (SV.v (Value.int IntKind.i64 (↑x : Int))),
    fun _ => el a = el (elN a) ∧ elN a < top,
    fun _ => el a = el (elN a) ∧ elN a < top,
    fun _ => (ByteArray.toList (dstr (10 : Nat) (elN a)) == ByteArray.toList (dstr (10 : Nat) (elN a))) = true,
    fun _ => el a = el (elN a) ∧ elN a < top,
    fun _ => el a = el (elN a) ∧ elN a < top,
    fun _ => (ByteArray.toList (xstr0 (elN a)) == ByteArray.toList (xstr0 (elN a))) = true,
    fun _ => el a = el (elN a)] (Res.v (Value.bool (hasBit (elN a) i == ((↑x : Int) == (1 : Int)))))]
  := by kernel_rfl


theorem texts_ok (a : Nat) (i : Int) (ha : a < top) (w : World) : Calls Try.prog 9 [el a, .int .i64 i].toArray w (fun E w' => ∃ v, E = .returned v ∧ Res.ok w w' (.v (.bool true)) v ∧ Below w.heap.size w w') := by
  have t255 : 255 < top := by decide +kernel
  by_cases h0 : 0 ≤ i
  · by_cases h1 : i < 256
    · obtain ⟨k, rfl⟩ := Int.eq_ofNat_of_zero_le h0
      have hk : k < 256 := by omega
      refine con_end (calls_plain hm Try.func9 (by kernel_rfl) rfl rfl 60 _ _ (run9c a (a / 2 ^ k % 2) k k) ⟨fun _ => ⟨?_, ?_⟩, trivial⟩)
      · simp only [hold_cons, hold_nil, and_true, elN_eq ha]
        exact ⟨fun _ _ => trivial, fun _ _ => trivial, fun _ _ => ⟨el255, t255⟩, fun _ _ => xstr255L, fun _ _ => decide_eq_true h0, fun _ _ => decide_eq_true h1, fun _ _ => trivial, fun _ _ => by rw [and255 k hk], fun _ _ => ⟨h0, h1⟩, fun _ _ => nb_row_pos a, fun _ _ => nb_row a k hk, fun _ _ => ⟨trivial, ha⟩, fun _ _ => ⟨trivial, ha⟩, fun _ _ => by simp, fun _ _ => ⟨trivial, ha⟩, fun _ _ => ⟨trivial, ha⟩, fun _ _ => by simp, fun _ _ => trivial⟩
      · show Res.v (Value.bool _) = Res.v (Value.bool true)
        congr 2
        rw [elN_eq ha, hasBit_eq, Int.toNat_natCast, beq_iff_eq, Bool.eq_iff_iff, decide_eq_true_iff, beq_iff_eq]
        omega
    · refine con_end (calls_plain hm Try.func9 (by kernel_rfl) rfl rfl 60 _ _ (run9b a i) ⟨fun _ => ⟨?_, ?_⟩, trivial⟩)
      · simp only [hold_cons, hold_nil, and_true, elN_eq ha]
        exact ⟨fun _ _ => trivial, fun _ _ => trivial, fun _ _ => ⟨el255, t255⟩, fun _ _ => xstr255L, fun _ _ => decide_eq_true h0, fun _ _ => decide_eq_false h1, fun _ _ => ⟨trivial, ha⟩, fun _ _ => ⟨trivial, ha⟩, fun _ _ => by simp, fun _ _ => ⟨trivial, ha⟩, fun _ _ => ⟨trivial, ha⟩, fun _ _ => by simp, fun _ _ => trivial⟩
      · show Res.v (Value.bool _) = Res.v (Value.bool true)
        congr 2
        rw [hasBit_eq, beq_iff_eq, decide_eq_false_iff_not]
        omega
  · refine con_end (calls_plain hm Try.func9 (by kernel_rfl) rfl rfl 60 _ _ (run9a a i) ⟨fun _ => ⟨?_, ?_⟩, trivial⟩)
    · simp only [hold_cons, hold_nil, and_true, elN_eq ha]
      exact ⟨fun _ _ => trivial, fun _ _ => trivial, fun _ _ => ⟨el255, t255⟩, fun _ _ => xstr255L, fun _ _ => decide_eq_false h0, fun _ _ => trivial, fun _ _ => ⟨trivial, ha⟩, fun _ _ => ⟨trivial, ha⟩, fun _ _ => by simp, fun _ _ => ⟨trivial, ha⟩, fun _ _ => ⟨trivial, ha⟩, fun _ _ => by simp, fun _ _ => trivial⟩
    · show Res.v (Value.bool _) = Res.v (Value.bool true)
      congr 2
      rw [hasBit_eq, beq_iff_eq, decide_eq_false_iff_not]
      omega
end Go.Proofs.Ytcipmpamhffclaa
