/- The law of the parses, walked: it answers true. -/
import Derived.Test.YtcipmpamhffclaaP9
namespace Go.Pl
open Go.Sx
theorem pAll_1000 : pAll (ByteArray.mk (Array.mk [OfNat.ofNat (49 : Nat), OfNat.ofNat (95 : Nat), OfNat.ofNat (48 : Nat), OfNat.ofNat (48 : Nat), OfNat.ofNat (48 : Nat)])) = (1000, 0) := by
  have h : hasPre (ByteArray.mk (Array.mk [OfNat.ofNat (49 : Nat), OfNat.ofNat (95 : Nat), OfNat.ofNat (48 : Nat), OfNat.ofNat (48 : Nat), OfNat.ofNat (48 : Nat)])) sg16 = false := by decide +kernel
  rw [pAll, h, if_neg (by decide +kernel), if_neg (by simp), pRes]
  decide +kernel
theorem pE_1000 : pE (ByteArray.mk (Array.mk [OfNat.ofNat (49 : Nat), OfNat.ofNat (95 : Nat), OfNat.ofNat (48 : Nat), OfNat.ofNat (48 : Nat), OfNat.ofNat (48 : Nat)])) = 0 := by rw [pE, hide_eq, pAll_1000]
theorem pN_1000 : limb (pN (ByteArray.mk (Array.mk [OfNat.ofNat (49 : Nat), OfNat.ofNat (95 : Nat), OfNat.ofNat (48 : Nat), OfNat.ofNat (48 : Nat), OfNat.ofNat (48 : Nat)]))) 0 = 1000 := by rw [pN, hide_eq, pAll_1000, limb, hide_eq]; decide +kernel
end Go.Pl
namespace Go.Proofs.Ytcipmpamhffclaa
open Go.Sx Go.Pl Go.RowKit
theorem run8 (s : ByteArray) : (((xgo Try.prog X (bodyOf Try.f8) 36 TL [] 60 [.f, .f, .t] ((.nil)) [.at []] ⟨argsTm 0 [.string s], []⟩ [] []).bind (ends Try.prog Try.f8.results.toList)).bind plainE) =
  some [EndP.mk [] [fun _ => True,
    fun _ => (4 : Nat) ≤ (4 : Nat),
    fun _ => (!(↑(pE (ByteArray.mk (Array.mk [OfNat.ofNat (49 : Nat), OfNat.ofNat (95 : Nat), OfNat.ofNat (48 : Nat), OfNat.ofNat (48 : Nat), OfNat.ofNat (48 : Nat)]))) : Int) == (0 : Int)) = false,
    fun _ => (0 : Int) ≤ (0 : Int) ∧ (0 : Int) < (4 : Int),
    fun _ => (!(↑(limb (pN (ByteArray.mk (Array.mk [OfNat.ofNat (49 : Nat), OfNat.ofNat (95 : Nat), OfNat.ofNat (48 : Nat), OfNat.ofNat (48 : Nat), OfNat.ofNat (48 : Nat)]))) (0 : Nat)) : Int) == (1000 : Int)) = false,
    fun _ => True,
    fun _ => (0 : Nat) + (4 : Nat) ≤ (4 : Nat),
    fun _ => True,
    fun _ => (0 : Nat) + (4 : Nat) ≤ (4 : Nat),
    fun _ => decide (elL (pN s) = elL (pN s)) = true] (Res.v (Value.bool ((↑(pE s) : Int) == (↑(pE s) : Int))))]
  := by kernel_rfl


theorem parses_ok (s : ByteArray) (w : World) : Calls Try.prog 8 [.string s].toArray w (fun E w' => ∃ v, E = .returned v ∧ Res.ok w w' (.v (.bool true)) v ∧ Below w.heap.size w w') := by
  refine con_end (calls_plain hm Try.func8 (by kernel_rfl) rfl rfl 60 _ _ (run8 s) ⟨fun _ => ⟨?_, ?_⟩, trivial⟩)
  · simp only [hold_cons, hold_nil, and_true, pE_1000, pN_1000]
    repeat' apply And.intro
    all_goals (intro _ _; first | exact True.intro | exact ⟨by omega, by omega⟩ | omega | rfl | (simp; done))
  · show Res.v (Value.bool _) = Res.v (Value.bool _)
    rw [beq_self_eq_true]
end Go.Proofs.Ytcipmpamhffclaa
