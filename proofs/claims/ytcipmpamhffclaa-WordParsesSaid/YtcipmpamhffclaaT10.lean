/- A number shown, in tens and in sixteens. -/
import Derived.Test.YtcipmpamhffclaaT7
namespace Go.Pl
open Go.Sx
theorem dgo_length (y : Nat) : ∀ (k a : Nat) (l : List Nat), (dgo y k a l).length ≤ l.length + k
  | 0, _, l => by simp [dgo]
  | k + 1, a, l => by
    rw [dgo]
    split
    · omega
    · have := dgo_length y k (a / y) (a % y :: l)
      simp only [List.length_cons] at this
      omega
theorem txt_size (l : List Value) : (txt l).size = l.length := by simp [txt, ByteArray.size]
theorem dstr_size (y a : Nat) : (dstr y a).size ≤ 257 := by
  rw [dstr, hidB_eq, txt_size]
  have := dgo_length y 256 (a / y) [a % y]
  simp only [hx, List.length_map, List.length_cons, List.length_nil] at this ⊢
  omega
/-- Behind the sign of sixteens. -/
noncomputable def xstr0 (a : Nat) : ByteArray := hidB (catB (ByteArray.mk (Array.mk [OfNat.ofNat (48 : Nat), OfNat.ofNat (120 : Nat)])) (dstr 16 a))
end Go.Pl
namespace Go.Proofs.Ytcipmpamhffclaa
open Go.Sx Go.Pl Go.RowKit
theorem run26 (a : Nat) : (((xgo Try.prog X (bodyOf Try.f26) 5 TE [] 50 [] (Tree.nil) [.at []] ⟨argsTm 0 [el a], []⟩ [] []).bind (ends Try.prog Try.f26.results.toList)).bind plainE) =
  some [EndP.mk [] [fun _ => el a = el (elN a) ∧ (10 : Int) = (10 : Int) ∧ ((10 : Nat) = (10 : Nat) ∨ (10 : Nat) = (16 : Nat)) ∧ elN a < top] (Res.v (Value.string (dstr (10 : Nat) (elN a))))]
  := by kernel_rfl

theorem run24 (a : Nat) : (((xgo Try.prog X (bodyOf Try.f24) 6 TE [] 50 [] (Tree.nil) [.at []] ⟨argsTm 0 [el a], []⟩ [] []).bind (ends Try.prog Try.f24.results.toList)).bind plainE) =
  some [EndP.mk [] [fun _ => el a = el (elN a) ∧ (16 : Int) = (16 : Int) ∧ ((16 : Nat) = (10 : Nat) ∨ (16 : Nat) = (16 : Nat)) ∧ elN a < top,
    fun _ => (2 : Nat) + ByteArray.size (dstr (16 : Nat) (elN a)) ≤ (9223372036854775807 : Nat)] (Res.v (Value.string (catB (ByteArray.mk (Array.mk [OfNat.ofNat (48 : Nat), OfNat.ofNat (120 : Nat)])) (dstr (16 : Nat) (elN a)))))]
  := by kernel_rfl

theorem show_ok (a : Nat) (ha : a < top) (w : World) : Calls Try.prog 26 [el a].toArray w (fun E w' => ∃ v, E = .returned v ∧ Res.ok w w' (.v (.string (dstr 10 a))) v ∧ Below w.heap.size w w') := by
  refine con_end (calls_plain hm Try.func26 (by kernel_rfl) rfl rfl 50 _ _ (run26 a) ⟨fun _ => ⟨?_, ?_⟩, trivial⟩)
  · simp only [hold_cons, hold_nil, and_true, elN_eq ha]
    exact fun _ _ => ⟨trivial, trivial, .inl trivial, ha⟩
  · rw [elN_eq ha]
theorem hex_ok (a : Nat) (ha : a < top) (w : World) : Calls Try.prog 24 [el a].toArray w (fun E w' => ∃ v, E = .returned v ∧ Res.ok w w' (.v (.string (xstr0 a))) v ∧ Below w.heap.size w w') := by
  have hs := dstr_size 16 a
  refine con_end (calls_plain hm Try.func24 (by kernel_rfl) rfl rfl 50 _ _ (run24 a) ⟨fun _ => ⟨?_, ?_⟩, trivial⟩)
  · simp only [hold_cons, hold_nil, and_true, elN_eq ha]
    exact ⟨fun _ _ => ⟨trivial, trivial, .inr trivial, ha⟩, fun _ _ => by omega⟩
  · rw [elN_eq ha, xstr0, hidB_eq]
end Go.Proofs.Ytcipmpamhffclaa
