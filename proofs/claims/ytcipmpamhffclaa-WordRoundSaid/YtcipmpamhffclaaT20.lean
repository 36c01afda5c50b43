/- A number shown by the document; the tables for the law of texts. -/
import Derived.Test.YtcipmpamhffclaaT19
import Derived.Test.YtcipmpamhffclaaT11
namespace Go.Pl
/-- Whether a bit is set. -/
noncomputable def hasBit (a : Nat) (i : Int) : Bool := Classical.choose (⟨decide (0 ≤ i ∧ i < 256 ∧ a / 2 ^ i.toNat % 2 = 1), rfl⟩ : ∃ b : Bool, b = decide (0 ≤ i ∧ i < 256 ∧ a / 2 ^ i.toNat % 2 = 1))
theorem hasBit_eq (a : Nat) (i : Int) : hasBit a i = decide (0 ≤ i ∧ i < 256 ∧ a / 2 ^ i.toNat % 2 = 1) := Classical.choose_spec (⟨decide (0 ≤ i ∧ i < 256 ∧ a / 2 ^ i.toNat % 2 = 1), rfl⟩ : ∃ b : Bool, b = decide (0 ≤ i ∧ i < 256 ∧ a / 2 ^ i.toNat % 2 = 1))
end Go.Pl
namespace Go.Proofs.Ytcipmpamhffclaa
open Go.Sx Go.Pl Go.RowKit
theorem run27 (a : Nat) : (((xgo Try.prog X (bodyOf Try.f27) 5 TG [] 50 [] (Tree.nil) [.at []] ⟨argsTm 0 [el a], []⟩ [] []).bind (ends Try.prog Try.f27.results.toList)).bind plainE) =
  some [EndP.mk [] [fun _ => el a = el (elN a) ∧ (10 : Int) = (10 : Int) ∧ ((10 : Nat) = (10 : Nat) ∨ (10 : Nat) = (16 : Nat)) ∧ elN a < top] (Res.v (Value.string (dstr (10 : Nat) (elN a))))]
  := by kernel_rfl

theorem run28 (a : Nat) : (((xgo Try.prog X (bodyOf Try.f28) 6 TG [] 50 [] (Tree.nil) [.at []] ⟨argsTm 0 [el a], []⟩ [] []).bind (ends Try.prog Try.f28.results.toList)).bind plainE) =
  some [EndP.mk [] [fun _ => el a = el (elN a) ∧ (16 : Int) = (16 : Int) ∧ ((16 : Nat) = (10 : Nat) ∨ (16 : Nat) = (16 : Nat)) ∧ elN a < top,
    fun _ => (2 : Nat) + ByteArray.size (dstr (16 : Nat) (elN a)) ≤ (9223372036854775807 : Nat)] (Res.v (Value.string (catB (ByteArray.mk (Array.mk [OfNat.ofNat (48 : Nat), OfNat.ofNat (120 : Nat)])) (dstr (16 : Nat) (elN a)))))]
  := by kernel_rfl

theorem rshow_ok (a : Nat) (ha : a < top) (w : World) : Calls Try.prog 27 [el a].toArray w (fun E w' => ∃ v, E = .returned v ∧ Res.ok w w' (.v (.string (dstr 10 a))) v ∧ Below w.heap.size w w') := by
  refine con_end (calls_plain hm Try.func27 (by kernel_rfl) rfl rfl 50 _ _ (run27 a) ⟨fun _ => ⟨?_, ?_⟩, trivial⟩)
  · simp only [hold_cons, hold_nil, and_true, elN_eq ha]
    exact fun _ _ => ⟨trivial, trivial, .inl trivial, ha⟩
  · rw [elN_eq ha]
theorem rhex_ok (a : Nat) (ha : a < top) (w : World) : Calls Try.prog 28 [el a].toArray w (fun E w' => ∃ v, E = .returned v ∧ Res.ok w w' (.v (.string (xstr0 a))) v ∧ Below w.heap.size w w') := by
  have hs := dstr_size 16 a
  refine con_end (calls_plain hm Try.func28 (by kernel_rfl) rfl rfl 50 _ _ (run28 a) ⟨fun _ => ⟨?_, ?_⟩, trivial⟩)
  · simp only [hold_cons, hold_nil, and_true, elN_eq ha]
    exact ⟨fun _ _ => ⟨trivial, trivial, .inr trivial, ha⟩, fun _ _ => by omega⟩
  · rw [elN_eq ha, xstr0, hidB_eq]
/-- A function of one number. -/
noncomputable def gOne (F : Nat → Value) : List RV → Option (Res × Prop)
  | [.v x] => match unEl x with
    | some a => some (.v (F a), x = el a ∧ a < top)
    | _ => none
  | _ => none
theorem gOne_ok {f : FuncId} {F : Nat → Value} (h : ∀ (a : Nat), a < top → ∀ w : World, Calls Try.prog f [el a].toArray w (fun E w' => ∃ v, E = .returned v ∧ Res.ok w w' (.v (F a)) v ∧ Below w.heap.size w w')) (rvs : List RV) (r : Res) (p : Prop) (vs : List Value) (w : World) (hg : gOne F rvs = some (r, p)) (hp : p) (hv : RVs (wmem w) rvs vs) : Calls Try.prog f vs.toArray w (fun E w' => ∃ v, E = .returned v ∧ r.ok w w' v ∧ Below w.heap.size w w') := by
  unfold gOne at hg
  split at hg
  · rename_i x
    split at hg
    · simp only [Option.some.injEq, Prod.mk.injEq] at hg
      obtain ⟨rfl, rfl⟩ := hg
      match vs, hv with
      | [y], ⟨h1, _⟩ =>
        rw [h1, hp.1]
        exact h _ hp.2 w
    · cases hg
  · cases hg
noncomputable def gBit : List RV → Option (Res × Prop)
  | [.v x, .v (.int .i64 i)] => match unEl x with
    | some a => some (.v (.bool (hasBit a i)), x = el a)
    | _ => none
  | _ => none
theorem gBit_ok (rvs : List RV) (r : Res) (p : Prop) (vs : List Value) (w : World) (hg : gBit rvs = some (r, p)) (hp : p) (hv : RVs (wmem w) rvs vs) : Calls Try.prog 29 vs.toArray w (fun E w' => ∃ v, E = .returned v ∧ r.ok w w' v ∧ Below w.heap.size w w') := by
  unfold gBit at hg
  split at hg
  · rename_i x i
    split at hg
    · simp only [Option.some.injEq, Prod.mk.injEq] at hg
      obtain ⟨rfl, rfl⟩ := hg
      rw [rvs2 hv, hp, hasBit_eq]
      exact bit_ok _ _ w
    · cases hg
  · cases hg
noncomputable def TH : Con Try.prog := (((((TG.add 26 (gOne fun a => .string (dstr 10 a)) (gOne_ok show_ok)).add 24 (gOne fun a => .string (xstr0 a)) (gOne_ok hex_ok)).add 27 (gOne fun a => .string (dstr 10 a)) (gOne_ok rshow_ok)).add 28 (gOne fun a => .string (xstr0 a)) (gOne_ok rhex_ok)).add 29 gBit gBit_ok).add 25 gBitsH gBitsH_ok
end Go.Proofs.Ytcipmpamhffclaa
