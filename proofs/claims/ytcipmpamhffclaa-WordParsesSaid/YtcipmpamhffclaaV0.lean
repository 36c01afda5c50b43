/- A number of four words that comes in as an argument. -/
import Derived.Test.YtcipmpamhffclaaW2
import Derived.Laws.IdiomArrays
import Derived.ProofKit
namespace Go.Proofs.Ytcipmpamhffclaa
open Go.Sx Go.Pl Go.RowKit Go.ChangeShapes Go.WideShapes Go.ChangeAt
theorem u22 : Try.prog.underlying 22 = some (.int .u64) := by kernel_rfl
theorem u24 : Try.prog.underlying 24 = some (.array 4 22) := by kernel_rfl
theorem c22 : Try.prog.cellsOf 22 = 1 := by kernel_rfl
theorem c24 : Try.prog.cellsOf 24 = 4 := by kernel_rfl
theorem trod_u64 {H : Type} {enc : TypeId × Value → H} {w : World} {base : Nat} {sp : Nat → Bool} {hd : Bool} {n : Nat} {c : Value} {y : DataW H × List MemPlace}
    (h : DataW.trod enc Try.prog w base sp hd n 22 [c] = some y) : ∃ z : Nat, c = .int .u64 (z : Int) ∧ z < 18446744073709551616 ∧ y = (.lit (.int .u64 (z : Int)), []) ∧
      ∀ (w' : World) (base' : Nat) (sp' : Nat → Bool) (hd' : Bool), DataW.trod enc Try.prog w' base' sp' hd' 1 22 [c] = some (.lit (.int .u64 (z : Int)), []) := by
  obtain ⟨z, h1, h2, h3⟩ := DataW.trod_int u22 h
  simp only [List.cons.injEq, and_true] at h1
  subst h1
  have hb : 0 ≤ z ∧ z < 18446744073709551616 := by
    simp [Lit.wf, IntKind.min, IntKind.max, IntKind.signed, IntKind.bits] at h3
    omega
  obtain ⟨k, rfl⟩ := Int.eq_ofNat_of_zero_le hb.1
  refine ⟨k, rfl, by omega, h2, fun w' base' sp' hd' => ?_⟩
  simp [DataW.trod, h3]
theorem elem_open {H : Type} {enc : TypeId × Value → H} {w : World} {r : Reach} {b0 base : Nat} {sp : Nat → Bool} {hd : Bool} {v : Value} {d : DataW H} {p : List MemPlace} (hval : Value.okWide Try.prog w r b0 24 v)
    (h : DataW.Trod enc Try.prog w base sp hd 24 v d p) : ∃ n, n < top ∧ v = el n ∧ p = [] ∧ ∀ (w' : World) (base' : Nat) (sp' : Nat → Bool) (hd' : Bool), DataW.Trod enc Try.prog w' base' sp' hd' 24 v d [] := by
  simp only [Value.okWide, u24] at hval
  obtain ⟨cs, rfl, hsz, _⟩ := hval
  rw [c24] at hsz
  obtain ⟨l⟩ := cs
  match l, hsz with
  | [x0, x1, x2, x3], _ =>
    obtain ⟨fuel, hf⟩ := h
    have hf' : DataW.trod enc Try.prog w base sp hd fuel 24 [x0, x1, x2, x3] = some (d, p) := hf
    obtain ⟨y0, y1, y2, y3, n, e1, t0, t1, t2, t3⟩ := trod_array4 u24 c22 hf'
    obtain ⟨z0, rfl, b0, rfl, s0⟩ := trod_u64 t0
    obtain ⟨z1, rfl, b1, rfl, s1⟩ := trod_u64 t1
    obtain ⟨z2, rfl, b2, rfl, s2⟩ := trod_u64 t2
    obtain ⟨z3, rfl, b3, rfl, s3⟩ := trod_u64 t3
    simp only [Prod.mk.injEq] at e1
    refine ⟨nv z0 z1 z2 z3, nv_lt b0 b1 b2 b3, (el_nv b0 b1 b2 b3).symm, by rw [e1.2]; rfl, fun w' base' sp' hd' => ⟨2, ?_⟩⟩
    show DataW.trod enc Try.prog w' base' sp' hd' 2 24 [.int .u64 (z0 : Int), .int .u64 (z1 : Int), .int .u64 (z2 : Int), .int .u64 (z3 : Int)] = some (d, [])
    unfold DataW.trod
    rw [u24]
    have r4 : List.range 4 = [0, 1, 2, 3] := rfl
    simp [r4, c22, c24, s0 w' base' sp' hd', s1 w' base' sp' hd', s2 w' base' sp' hd', s3 w' base' sp' hd', e1.1]
theorem lawEnd {f : FuncId} {args : List Value} {w : World} (h : Calls Try.prog f args.toArray w (fun E w' => ∃ v, E = .returned v ∧ Res.ok w w' (.v (.bool true)) v ∧ Below w.heap.size w w')) :
    Calls Try.prog f args.toArray w (fun E w' => E = .returned (.bool true) ∧ Below w.heap.size w w') :=
  h.mono fun _ _ ⟨_, h1, h2, h3⟩ => ⟨by rw [h1]; exact congrArg _ h2, h3⟩
end Go.Proofs.Ytcipmpamhffclaa
