/- The seat's own facts for the runner. -/
import Derived.Test.YtcipmpamhffclaaChecked
import Derived.Test.YtcipmpamhffclaaSx23
import Derived.Shelf.Spec.BitsCarry
namespace Go.Proofs.Ytcipmpamhffclaa
open Go.Sx Go.Pl Go.RowKit

noncomputable def wext (f : FuncId) (vs : List Value) : Option (Value × Prop) :=
  match vs with
  | [.int .u64 x, .int .u64 y, .int .u64 c] =>
    bif Nat.beq f 30 then some (.tuple #[.int .u64 ((adLo x.toNat y.toNat c.toNat : Nat) : Int), .int .u64 ((adHi x.toNat y.toNat c.toNat : Nat) : Int)], 0 ≤ x ∧ 0 ≤ y ∧ 0 ≤ c ∧ c.toNat ≤ 1)
    else bif Nat.beq f 33 then some (.tuple #[.int .u64 ((sbLo x.toNat y.toNat c.toNat : Nat) : Int), .int .u64 ((sbHi x.toNat y.toNat c.toNat : Nat) : Int)], 0 ≤ x ∧ 0 ≤ y ∧ 0 ≤ c ∧ c.toNat ≤ 1)
    else none
  | _ => none
theorem ext30 : Extern.find Try.f30 = some add64Entry := by kernel_rfl
theorem ext33 : Extern.find Try.f33 = some sub64Entry := by kernel_rfl
theorem wextOk (f : FuncId) (vs : List Value) (v : Value) (p : Prop) (w : World) (h : wext f vs = some (v, p)) (hp : p) : (callFunc f vs.toArray).run Try.prog w = .ok (.value v) w := by
  unfold wext at h
  split at h
  · rename_i x y c
    cases h1 : Nat.beq f 30 with
    | true =>
      simp only [h1, cond_true, Option.some.injEq, Prod.mk.injEq] at h
      obtain ⟨rfl, rfl⟩ := h
      obtain ⟨hx, hy, hc, hc1⟩ := hp
      have := Nat.eq_of_beq_eq_true h1
      subst this
      obtain ⟨x, rfl⟩ := Int.eq_ofNat_of_zero_le hx
      obtain ⟨y, rfl⟩ := Int.eq_ofNat_of_zero_le hy
      obtain ⟨c, rfl⟩ := Int.eq_ofNat_of_zero_le hc
      simp only [Int.toNat_natCast, adLo_eq, adHi_eq] at hc1 ⊢
      rw [run_callFunc_extern Try.func30 (by kernel_rfl) (by kernel_rfl) (by kernel_rfl) ext30, run_add64 (x : Int) y c (by omega) (by omega) (by omega) (by omega)]
      simp only [Result.andThen]
      congr 5 <;> omega
    | false =>
      cases h2 : Nat.beq f 33 with
      | true =>
        simp only [h1, h2, cond_true, cond_false, Option.some.injEq, Prod.mk.injEq] at h
        obtain ⟨rfl, rfl⟩ := h
        obtain ⟨hx, hy, hc, hc1⟩ := hp
        have := Nat.eq_of_beq_eq_true h2
        subst this
        obtain ⟨x, rfl⟩ := Int.eq_ofNat_of_zero_le hx
        obtain ⟨y, rfl⟩ := Int.eq_ofNat_of_zero_le hy
        obtain ⟨c, rfl⟩ := Int.eq_ofNat_of_zero_le hc
        simp only [Int.toNat_natCast, sbLo_eq, sbHi_eq] at hc1 ⊢
        rw [run_callFunc_extern Try.func33 (by kernel_rfl) (by kernel_rfl) (by kernel_rfl) ext33, run_sub64 x y c hc1]
        rfl
      | false => simp only [h1, h2, cond_false] at h; cases h
  · cases h

theorem eq24 : EqT Try.prog 2 24 true [.u64, .u64, .u64, .u64] :=
  EqT.array (len := 4) (EqT.int (by kernel_rfl : Try.prog.underlying 22 = some (.int .u64)) (by kernel_rfl)) (by kernel_rfl) (by kernel_rfl)
noncomputable def X : Ext Try.prog where
  ext := wext
  extOk := wextOk
  eq := fun t => bif Nat.beq t 24 then some [.u64, .u64, .u64, .u64] else none
  eqOk := by
    intro t ks xs ys x y w h hx hy
    cases h1 : Nat.beq t 24 with
    | true =>
      simp only [h1, cond_true, Option.some.injEq] at h
      subst h
      have := Nat.eq_of_beq_eq_true h1
      subst this
      exact eq24.ok (by omega) (by kernel_rfl) xs ys x y w hx hy
    | false => simp only [h1, cond_false] at h; cases h
def C0 : Con Try.prog := ⟨fun _ _ => none, fun _ _ _ _ _ _ h => by cases h⟩
theorem hm : Try.prog.follows .mixedOrders = true := by kernel_rfl
end Go.Proofs.Ytcipmpamhffclaa
