/- The law of the sums, walked: it answers true. -/
import Derived.Test.YtcipmpamhffclaaB22
namespace Go.Proofs.Ytcipmpamhffclaa
open Go.Sx Go.Pl Go.RowKit
theorem run3 (a b : Nat) : (((xgo Try.prog X (bodyOf Try.f3) 66 CI [] 50 [Dec.f] (Tree.br [] (Tree.br [] (Tree.br [] (Tree.br [] Tree.nil [] Tree.nil) [Dec.f] Tree.nil) [Dec.f, Dec.f] Tree.nil) [Dec.f, Dec.f, Dec.f] Tree.nil) [.at []] ⟨argsTm 0 [el a, el b], []⟩ [] []).bind (ends Try.prog Try.f3.results.toList)).bind plainE) =
  some [EndP.mk [decide (elL (elN a + elN b) = elL (elN a + elN b)) = true, (decide (top ≤ elN a + elN b) == decide (top ≤ elN a + elN b)) = true, decide (elL (elN a + top - elN b) = elL (elN a + top - elN b)) = true, (decide (elN a < elN b) == decide (elN a < elN b)) = true] [fun _ => ([] : List RV) = [],
    fun _ => false = false,
    fun _ => el a = el (elN a) ∧ el b = el (elN b) ∧ elN a < top ∧ elN b < top,
    fun _ => (0 : Nat) + (4 : Nat) ≤ (4 : Nat),
    fun _ => el a = el (elN a) ∧ el b = el (elN b) ∧ elN a < top ∧ elN b < top,
    fun _ => (0 : Nat) + (4 : Nat) ≤ (4 : Nat),
    fun _ => el a = el (elN a) ∧ el b = el (elN b) ∧ elN a < top ∧ elN b < top,
    fun _ => (0 : Nat) + (4 : Nat) ≤ (4 : Nat),
    fun _ => el a = el (elN a) ∧ el b = el (elN b) ∧ elN a < top ∧ elN b < top,
    fun _ => (0 : Nat) + (4 : Nat) ≤ (4 : Nat),
    fun _ => decide (elL (elN a + elN b) = elL (elN a + elN b)) = true,
    fun _ => (decide (top ≤ elN a + elN b) == decide (top ≤ elN a + elN b)) = true,
    fun _ => decide (elL (elN a + top - elN b) = elL (elN a + top - elN b)) = true,
    fun _ => (decide (elN a < elN b) == decide (elN a < elN b)) = true,
    fun _ => el a = el (elN a) ∧ el b = el (elN b) ∧ elN a < top ∧ elN b < top,
    fun _ => el a = el (elN a) ∧ el b = el (elN b) ∧ elN a < top ∧ elN b < top] (Res.v (Value.bool (decide (elN a < elN b) == decide (elN a < elN b)))),
  EndP.mk [decide (elL (elN a + elN b) = elL (elN a + elN b)) = true, (decide (top ≤ elN a + elN b) == decide (top ≤ elN a + elN b)) = true, decide (elL (elN a + top - elN b) = elL (elN a + top - elN b)) = true, (decide (elN a < elN b) == decide (elN a < elN b)) = false] [fun _ => ([] : List RV) = [],
    fun _ => false = false,
    fun _ => el a = el (elN a) ∧ el b = el (elN b) ∧ elN a < top ∧ elN b < top,
    fun _ => (0 : Nat) + (4 : Nat) ≤ (4 : Nat),
    fun _ => el a = el (elN a) ∧ el b = el (elN b) ∧ elN a < top ∧ elN b < top,
    fun _ => (0 : Nat) + (4 : Nat) ≤ (4 : Nat),
    fun _ => el a = el (elN a) ∧ el b = el (elN b) ∧ elN a < top ∧ elN b < top,
    fun _ => (0 : Nat) + (4 : Nat) ≤ (4 : Nat),
    fun _ => el a = el (elN a) ∧ el b = el (elN b) ∧ elN a < top ∧ elN b < top,
    fun _ => (0 : Nat) + (4 : Nat) ≤ (4 : Nat),
    fun _ => decide (elL (elN a + elN b) = elL (elN a + elN b)) = true,
    fun _ => (decide (top ≤ elN a + elN b) == decide (top ≤ elN a + elN b)) = true,
    fun _ => decide (elL (elN a + top - elN b) = elL (elN a + top - elN b)) = true,
    fun _ => (decide (elN a < elN b) == decide (elN a < elN b)) = false] (Res.v (Value.bool false)),
  EndP.mk [decide (elL (elN a + elN b) = elL (elN a + elN b)) = true, (decide (top ≤ elN a + elN b) == decide (top ≤ elN a + elN b)) = true, decide (elL (elN a + top - elN b) = elL (elN a + top - elN b)) = false] [fun _ => ([] : List RV) = [],
    fun _ => false = false,
    fun _ => el a = el (elN a) ∧ el b = el (elN b) ∧ elN a < top ∧ elN b < top,
    fun _ => (0 : Nat) + (4 : Nat) ≤ (4 : Nat),
    fun _ => el a = el (elN a) ∧ el b = el (elN b) ∧ elN a < top ∧ elN b < top,
    fun _ => (0 : Nat) + (4 : Nat) ≤ (4 : Nat),
    fun _ => el a = el (elN a) ∧ el b = el (elN b) ∧ elN a < top ∧ elN b < top,
    fun _ => (0 : Nat) + (4 : Nat) ≤ (4 : Nat),
    fun _ => el a = el (elN a) ∧ el b = el (elN b) ∧ elN a < top ∧ elN b < top,
    fun _ => (0 : Nat) + (4 : Nat) ≤ (4 : Nat),
    fun _ => decide (elL (elN a + elN b) = elL (elN a + elN b)) = true,
    fun _ => (decide (top ≤ elN a + elN b) == decide (top ≤ elN a + elN b)) = true,
    fun _ => decide (elL (elN a + top - elN b) = elL (elN a + top - elN b)) = false,
    fun _ => false = false] (Res.v (Value.bool false)),
  EndP.mk [decide (elL (elN a + elN b) = elL (elN a + elN b)) = true, (decide (top ≤ elN a + elN b) == decide (top ≤ elN a + elN b)) = false] [fun _ => ([] : List RV) = [],
    fun _ => false = false,
    fun _ => el a = el (elN a) ∧ el b = el (elN b) ∧ elN a < top ∧ elN b < top,
    fun _ => (0 : Nat) + (4 : Nat) ≤ (4 : Nat),
    fun _ => el a = el (elN a) ∧ el b = el (elN b) ∧ elN a < top ∧ elN b < top,
    fun _ => (0 : Nat) + (4 : Nat) ≤ (4 : Nat),
    fun _ => el a = el (elN a) ∧ el b = el (elN b) ∧ elN a < top ∧ elN b < top,
    fun _ => (0 : Nat) + (4 : Nat) ≤ (4 : Nat),
    fun _ => el a = el (elN a) ∧ el b = el (elN b) ∧ elN a < top ∧ elN b < top,
    fun _ => (0 : Nat) + (4 : Nat) ≤ (4 : Nat),
    fun _ => decide (elL (elN a + elN b) = elL (elN a + elN b)) = true,
    fun _ => (decide (top ≤ elN a + elN b) == decide (top ≤ elN a + elN b)) = false,
    fun _ => false = false,
    fun _ => false = false] (Res.v (Value.bool false)),
  EndP.mk [decide (elL (elN a + elN b) = elL (elN a + elN b)) = false] [fun _ => ([] : List RV) = [],
    fun _ => false = false,
    fun _ => el a = el (elN a) ∧ el b = el (elN b) ∧ elN a < top ∧ elN b < top,
    fun _ => (0 : Nat) + (4 : Nat) ≤ (4 : Nat),
    fun _ => el a = el (elN a) ∧ el b = el (elN b) ∧ elN a < top ∧ elN b < top,
    fun _ => (0 : Nat) + (4 : Nat) ≤ (4 : Nat),
    fun _ => el a = el (elN a) ∧ el b = el (elN b) ∧ elN a < top ∧ elN b < top,
    fun _ => (0 : Nat) + (4 : Nat) ≤ (4 : Nat),
    fun _ => el a = el (elN a) ∧ el b = el (elN b) ∧ elN a < top ∧ elN b < top,
    fun _ => (0 : Nat) + (4 : Nat) ≤ (4 : Nat),
    fun _ => decide (elL (elN a + elN b) = elL (elN a + elN b)) = false,
    fun _ => false = false,
    fun _ => false = false,
    fun _ => false = false] (Res.v (Value.bool false))]
  := by kernel_rfl


theorem sums_ok (a b : Nat) (ha : a < top) (hb : b < top) (w : World) : Calls Try.prog 3 [el a, el b].toArray w (fun E w' => ∃ v, E = .returned v ∧ Res.ok w w' (.v (.bool true)) v ∧ Below w.heap.size w w') := by
  refine con_end (calls_plain hm Try.func3 (by kernel_rfl) rfl rfl 50 _ _ (run3 a b) ⟨fun _ => ⟨?_, ?_⟩, ⟨fun has => ?_, ⟨fun has => ?_, ⟨fun has => ?_, ⟨fun has => ?_, trivial⟩⟩⟩⟩⟩)
  · simp only [hold_cons, hold_nil, and_true, elN_eq ha, elN_eq hb]
    repeat' apply And.intro
    all_goals (intro _ _; first | exact True.intro | omega | (simp; done) | exact ⟨trivial, trivial, ha, hb⟩)
  · simp
  · have h := has _ (List.mem_cons_of_mem _ (List.mem_cons_of_mem _ (List.mem_cons_of_mem _ List.mem_cons_self)))
    simp at h
  · have h := has _ (List.mem_cons_of_mem _ (List.mem_cons_of_mem _ List.mem_cons_self))
    simp at h
  · have h := has _ (List.mem_cons_of_mem _ List.mem_cons_self)
    simp at h
  · have h := has _ List.mem_cons_self
    simp at h
end Go.Proofs.Ytcipmpamhffclaa
