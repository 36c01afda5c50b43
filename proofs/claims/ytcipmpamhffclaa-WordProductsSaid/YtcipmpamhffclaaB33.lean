/- The law of the products, walked: it answers true. -/
import Derived.Test.YtcipmpamhffclaaB32
namespace Go.Proofs.Ytcipmpamhffclaa
open Go.Sx Go.Pl Go.RowKit
theorem run4 (a b m : Nat) : (((xgo Try.prog X (bodyOf Try.f4) 59 CK [] 50 [Dec.f] (Tree.br [Dec.t] Tree.nil [] (Tree.br [] Tree.nil [Dec.ld (SV.v (Value.tuple (Array.mk [el (rmN a b m), Value.int IntKind.i64 (↑(rmE m) : Int)]))), Dec.ld (SV.v (Value.tuple (Array.mk [el (rmN a b m), Value.int IntKind.i64 (↑(rmE m) : Int)])))] (Tree.br [] Tree.nil [] Tree.nil))) [.at []] ⟨argsTm 0 [el a, el b, el m], []⟩ [] []).bind (ends Try.prog Try.f4.results.toList)).bind plainE) =
  some [EndP.mk [(!decide (elL (elN a * elN b % top) = elL (elN a * elN b % top))) = true] [fun _ => ([] : List RV) = [],
    fun _ => false = false,
    fun _ => el a = el (elN a) ∧ el b = el (elN b) ∧ elN a < top ∧ elN b < top,
    fun _ => (0 : Nat) + (4 : Nat) ≤ (4 : Nat),
    fun _ => (0 : Nat) + (4 : Nat) ≤ (4 : Nat),
    fun _ => el a = el (elN a) ∧ el b = el (elN b) ∧ elN a < top ∧ elN b < top,
    fun _ => (0 : Nat) + (4 : Nat) ≤ (4 : Nat),
    fun _ => (0 : Nat) + (4 : Nat) ≤ (4 : Nat),
    fun _ => (!decide (elL (elN a * elN b % top) = elL (elN a * elN b % top))) = true,
    fun _ => true = true] (Res.v (Value.bool false)),
  EndP.mk [(!decide (elL (elN a * elN b % top) = elL (elN a * elN b % top))) = false, (!decide (elL (elN a * elN b / top) = elL (elN a * elN b / top))) = true] [fun _ => ([] : List RV) = [],
    fun _ => false = false,
    fun _ => el a = el (elN a) ∧ el b = el (elN b) ∧ elN a < top ∧ elN b < top,
    fun _ => (0 : Nat) + (4 : Nat) ≤ (4 : Nat),
    fun _ => (0 : Nat) + (4 : Nat) ≤ (4 : Nat),
    fun _ => el a = el (elN a) ∧ el b = el (elN b) ∧ elN a < top ∧ elN b < top,
    fun _ => (0 : Nat) + (4 : Nat) ≤ (4 : Nat),
    fun _ => (0 : Nat) + (4 : Nat) ≤ (4 : Nat),
    fun _ => (!decide (elL (elN a * elN b % top) = elL (elN a * elN b % top))) = false,
    fun _ => (!decide (elL (elN a * elN b / top) = elL (elN a * elN b / top))) = true] (Res.v (Value.bool false)),
  EndP.mk [(!decide (elL (elN a * elN b % top) = elL (elN a * elN b % top))) = false, (!decide (elL (elN a * elN b / top) = elL (elN a * elN b / top))) = false, decide (elL (rmN a b m) = elL (rmN a b m)) = true] [fun _ => ([] : List RV) = [],
    fun _ => false = false,
    fun _ => el a = el (elN a) ∧ el b = el (elN b) ∧ elN a < top ∧ elN b < top,
    fun _ => (0 : Nat) + (4 : Nat) ≤ (4 : Nat),
    fun _ => (0 : Nat) + (4 : Nat) ≤ (4 : Nat),
    fun _ => el a = el (elN a) ∧ el b = el (elN b) ∧ elN a < top ∧ elN b < top,
    fun _ => (0 : Nat) + (4 : Nat) ≤ (4 : Nat),
    fun _ => (0 : Nat) + (4 : Nat) ≤ (4 : Nat),
    fun _ => (!decide (elL (elN a * elN b % top) = elL (elN a * elN b % top))) = false,
    fun _ => (!decide (elL (elN a * elN b / top) = elL (elN a * elN b / top))) = false,
    fun _ => el a = el (elN a) ∧ el b = el (elN b) ∧ el m = el (elN m) ∧ elN a < top ∧ elN b < top ∧ elN m < top,
    fun _ => remV (elN a) (elN b) (elN m) = Value.tuple (Array.mk [el (rmN a b m), Value.int IntKind.i64 (↑(rmE m) : Int)]),
    fun _ => (0 : Nat) + (4 : Nat) ≤ (4 : Nat),
    fun _ => el a = el (elN a) ∧ el b = el (elN b) ∧ el m = el (elN m) ∧ elN a < top ∧ elN b < top ∧ elN m < top,
    fun _ => remV (elN a) (elN b) (elN m) = Value.tuple (Array.mk [el (rmN a b m), Value.int IntKind.i64 (↑(rmE m) : Int)]),
    fun _ => (0 : Nat) + (4 : Nat) ≤ (4 : Nat),
    fun _ => decide (elL (rmN a b m) = elL (rmN a b m)) = true] (Res.v (Value.bool ((↑(rmE m) : Int) == (↑(rmE m) : Int)))),
  EndP.mk [(!decide (elL (elN a * elN b % top) = elL (elN a * elN b % top))) = false, (!decide (elL (elN a * elN b / top) = elL (elN a * elN b / top))) = false, decide (elL (rmN a b m) = elL (rmN a b m)) = false] [fun _ => ([] : List RV) = [],
    fun _ => false = false,
    fun _ => el a = el (elN a) ∧ el b = el (elN b) ∧ elN a < top ∧ elN b < top,
    fun _ => (0 : Nat) + (4 : Nat) ≤ (4 : Nat),
    fun _ => (0 : Nat) + (4 : Nat) ≤ (4 : Nat),
    fun _ => el a = el (elN a) ∧ el b = el (elN b) ∧ elN a < top ∧ elN b < top,
    fun _ => (0 : Nat) + (4 : Nat) ≤ (4 : Nat),
    fun _ => (0 : Nat) + (4 : Nat) ≤ (4 : Nat),
    fun _ => (!decide (elL (elN a * elN b % top) = elL (elN a * elN b % top))) = false,
    fun _ => (!decide (elL (elN a * elN b / top) = elL (elN a * elN b / top))) = false,
    fun _ => el a = el (elN a) ∧ el b = el (elN b) ∧ el m = el (elN m) ∧ elN a < top ∧ elN b < top ∧ elN m < top,
    fun _ => remV (elN a) (elN b) (elN m) = Value.tuple (Array.mk [el (rmN a b m), Value.int IntKind.i64 (↑(rmE m) : Int)]),
    fun _ => (0 : Nat) + (4 : Nat) ≤ (4 : Nat),
    fun _ => el a = el (elN a) ∧ el b = el (elN b) ∧ el m = el (elN m) ∧ elN a < top ∧ elN b < top ∧ elN m < top,
    fun _ => remV (elN a) (elN b) (elN m) = Value.tuple (Array.mk [el (rmN a b m), Value.int IntKind.i64 (↑(rmE m) : Int)]),
    fun _ => (0 : Nat) + (4 : Nat) ≤ (4 : Nat),
    fun _ => decide (elL (rmN a b m) = elL (rmN a b m)) = false] (Res.v (Value.bool false))]
  := by kernel_rfl


theorem products_ok (a b m : Nat) (ha : a < top) (hb : b < top) (hmt : m < top) (w : World) : Calls Try.prog 4 [el a, el b, el m].toArray w (fun E w' => ∃ v, E = .returned v ∧ Res.ok w w' (.v (.bool true)) v ∧ Below w.heap.size w w') := by
  refine con_end (calls_plain hm Try.func4 (by kernel_rfl) rfl rfl 50 _ _ (run4 a b m) ⟨fun has => ?_, ⟨fun has => ?_, ⟨fun has => ⟨?_, ?_⟩, ⟨fun has => ?_, trivial⟩⟩⟩⟩)
  · have h := has _ List.mem_cons_self
    simp at h
  · have h := has _ (List.mem_cons_of_mem _ List.mem_cons_self)
    simp at h
  · have hr := remV_eq a b m
    simp only [hold_cons, hold_nil, and_true, elN_eq ha, elN_eq hb, elN_eq hmt]
    repeat' apply And.intro
    all_goals (intro _ _; first | exact True.intro | omega | exact hr | (simp; done) | exact ⟨trivial, trivial, ha, hb⟩ | exact ⟨trivial, trivial, trivial, ha, hb, hmt⟩)
  · simp
  · have h := has _ (List.mem_cons_of_mem _ (List.mem_cons_of_mem _ List.mem_cons_self))
    simp at h
end Go.Proofs.Ytcipmpamhffclaa
