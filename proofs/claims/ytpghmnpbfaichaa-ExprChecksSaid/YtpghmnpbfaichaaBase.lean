/- The seat's own facts for the runner. -/
import Derived.Test.YtpghmnpbfaichaaChecked
import Derived.Test.YtpghmnpbfaichaaSx23
import Derived.Shelf.Spec.BitsCarry
namespace Go.Proofs.Ytpghmnpbfaichaa
open Go.Sx Go.Pl Go.RowKit

noncomputable def wext (f : FuncId) (vs : List Value) : Option (Value × Prop) :=
  match vs with
  | [.int .u64 x, .int .u64 y, .int .u64 c] =>
    bif Nat.beq f 94 then some (.tuple #[.int .u64 ((adLo x.toNat y.toNat c.toNat : Nat) : Int), .int .u64 ((adHi x.toNat y.toNat c.toNat : Nat) : Int)], 0 ≤ x ∧ 0 ≤ y ∧ 0 ≤ c ∧ c.toNat ≤ 1)
    else bif Nat.beq f 99 then some (.tuple #[.int .u64 ((sbLo x.toNat y.toNat c.toNat : Nat) : Int), .int .u64 ((sbHi x.toNat y.toNat c.toNat : Nat) : Int)], 0 ≤ x ∧ 0 ≤ y ∧ 0 ≤ c ∧ c.toNat ≤ 1)
    else none
  | _ => none
theorem ext94 : Extern.find Try.f94 = some add64Entry := by kernel_rfl
theorem ext99 : Extern.find Try.f99 = some sub64Entry := by kernel_rfl
theorem wextOk (f : FuncId) (vs : List Value) (v : Value) (p : Prop) (w : World) (h : wext f vs = some (v, p)) (hp : p) : (callFunc f vs.toArray).run Try.prog w = .ok (.value v) w := by
  unfold wext at h
  split at h
  · rename_i x y c
    cases h1 : Nat.beq f 94 with
    | true =>
      simp only [h1, cond_true, Option.some.injEq, Prod.mk.injEq] at h
      obtain ⟨rfl, rfl⟩ := h
      obtain ⟨hx, hy, hc, hc1⟩ := hp
      have := Nat.eq_of_beq_eq_true h1
      subst this
      obtain ⟨x, rfl⟩ := Int.eq_ofNat_of_zero_le hx
      obtain ⟨y, rfl⟩ := Int.eq_ofNat_of_zero_le hy
      obtain ⟨c, rfl⟩ := Int.eq_ofNat_of_zero_le hc
      simp only [Int.toNat_natCast, adLo_eq, adHi_eq] at hc1 ⊢
      rw [run_callFunc_extern Try.func94 (by kernel_rfl) (by kernel_rfl) (by kernel_rfl) ext94, run_add64 (x : Int) y c (by omega) (by omega) (by omega) (by omega)]
      simp only [Result.andThen]
      congr 5 <;> omega
    | false =>
      cases h2 : Nat.beq f 99 with
      | true =>
        simp only [h1, h2, cond_true, cond_false, Option.some.injEq, Prod.mk.injEq] at h
        obtain ⟨rfl, rfl⟩ := h
        obtain ⟨hx, hy, hc, hc1⟩ := hp
        have := Nat.eq_of_beq_eq_true h2
        subst this
        obtain ⟨x, rfl⟩ := Int.eq_ofNat_of_zero_le hx
        obtain ⟨y, rfl⟩ := Int.eq_ofNat_of_zero_le hy
        obtain ⟨c, rfl⟩ := Int.eq_ofNat_of_zero_le hc
        simp only [Int.toNat_natCast, sbLo_eq, sbHi_eq] at hc1 ⊢
        rw [run_callFunc_extern Try.func99 (by kernel_rfl) (by kernel_rfl) (by kernel_rfl) ext99, run_sub64 x y c hc1]
        rfl
      | false => simp only [h1, h2, cond_false] at h; cases h
  · cases h

theorem EqT.le {P : Program} {d d' : Nat} {t : TypeId} {ag : Bool} {ks : List IntKind} (h : EqT P d t ag ks) (hd : d ≤ d') : EqT P d' t ag ks where
  agg := h.agg
  size := h.size
  one := h.one
  eq := fun D xs ys w hD hx hy => h.eq D xs ys w (Nat.le_trans hd hD) hx hy
theorem eqI : EqT Try.prog 2 3 false [.i64] := EqT.le (EqT.int (by kernel_rfl : Try.prog.underlying 3 = some (.int .i64)) (by kernel_rfl)) (by omega)
theorem eq41 : EqT Try.prog 2 41 true [.u64, .u64, .u64, .u64] :=
  EqT.array (len := 4) (EqT.int (by kernel_rfl : Try.prog.underlying 39 = some (.int .u64)) (by kernel_rfl)) (by kernel_rfl) (by kernel_rfl)
theorem fs43 : (Try.prog.fieldsOf 43).toList = [⟨"Op", 3, 0, false, "", "", 0⟩, ⟨"A", 3, 1, false, "", "", 8⟩, ⟨"B", 3, 2, false, "", "", 16⟩, ⟨"V", 41, 3, false, "", "", 24⟩] := by kernel_rfl
theorem eq43 : EqT Try.prog 3 43 true [.i64, .i64, .i64, .u64, .u64, .u64, .u64] :=
  EqT.struct (by rw [fs43]; show EqFs Try.prog 2 0 _ ([.i64] ++ ([.i64] ++ ([.i64] ++ ([.u64, .u64, .u64, .u64] ++ [])))); exact .cons eqI rfl (by decide) (.cons eqI rfl (by decide) (.cons eqI rfl (by decide) (.cons eq41 rfl (by decide) (.nil _))))) (by kernel_rfl) (by kernel_rfl) (by kernel_rfl)
theorem fs63 : (Try.prog.fieldsOf 63).toList = [⟨"Kind", 3, 0, false, "", "", 0⟩, ⟨"Col", 3, 1, false, "", "", 8⟩, ⟨"Rot", 3, 2, false, "", "", 16⟩] := by kernel_rfl
theorem eq63 : EqT Try.prog 3 63 true [.i64, .i64, .i64] :=
  EqT.struct (by rw [fs63]; show EqFs Try.prog 2 0 _ ([.i64] ++ ([.i64] ++ ([.i64] ++ []))); exact .cons eqI rfl (by decide) (.cons eqI rfl (by decide) (.cons eqI rfl (by decide) (.nil _)))) (by kernel_rfl) (by kernel_rfl) (by kernel_rfl)
theorem fs96 : (Try.prog.fieldsOf 96).toList = [⟨"Kind", 3, 0, false, "", "", 0⟩, ⟨"Col", 3, 1, false, "", "", 8⟩] := by kernel_rfl
theorem eq96 : EqT Try.prog 3 96 true [.i64, .i64] :=
  EqT.struct (by rw [fs96]; show EqFs Try.prog 2 0 _ ([.i64] ++ ([.i64] ++ [])); exact .cons eqI rfl (by decide) (.cons eqI rfl (by decide) (.nil _))) (by kernel_rfl) (by kernel_rfl) (by kernel_rfl)
noncomputable def X : Ext Try.prog where
  ext := wext
  extOk := wextOk
  eq := fun t => bif Nat.beq t 41 then some [.u64, .u64, .u64, .u64] else bif Nat.beq t 43 then some [.i64, .i64, .i64, .u64, .u64, .u64, .u64] else bif Nat.beq t 63 then some [.i64, .i64, .i64] else bif Nat.beq t 96 then some [.i64, .i64] else none
  eqOk := by
    intro t ks xs ys x y w h hx hy
    cases h1 : Nat.beq t 41 with
    | true =>
      simp only [h1, cond_true, Option.some.injEq] at h
      subst h
      have := Nat.eq_of_beq_eq_true h1
      subst this
      exact eq41.ok (by omega) (by kernel_rfl) xs ys x y w hx hy
    | false =>
    cases h2 : Nat.beq t 43 with
    | true =>
      simp only [h1, h2, cond_true, cond_false, Option.some.injEq] at h
      subst h
      have := Nat.eq_of_beq_eq_true h2
      subst this
      exact eq43.ok (by omega) (by kernel_rfl) xs ys x y w hx hy
    | false =>
    cases h3 : Nat.beq t 63 with
    | true =>
      simp only [h1, h2, h3, cond_true, cond_false, Option.some.injEq] at h
      subst h
      have := Nat.eq_of_beq_eq_true h3
      subst this
      exact eq63.ok (by omega) (by kernel_rfl) xs ys x y w hx hy
    | false =>
    cases h4 : Nat.beq t 96 with
    | true =>
      simp only [h1, h2, h3, h4, cond_true, cond_false, Option.some.injEq] at h
      subst h
      have := Nat.eq_of_beq_eq_true h4
      subst this
      exact eq96.ok (by omega) (by kernel_rfl) xs ys x y w hx hy
    | false => simp only [h1, h2, h3, h4, cond_false] at h; cases h
def C0 : Con Try.prog := ⟨fun _ _ => none, fun _ _ _ _ _ _ h => by cases h⟩
theorem hm : Try.prog.follows .mixedOrders = true := by kernel_rfl
end Go.Proofs.Ytpghmnpbfaichaa
