/- A number divided by ten or sixteen. -/
import Derived.Test.YtcipmpamhffclaaT3
namespace Go.Pl
theorem dv_eq (y hi lo : Nat) (hy : y = 10 ∨ y = 16) (hh : hi < y) (hl : lo < 18446744073709551616) : 18446744073709551616 * hi + lo = y * dvQ y hi lo + dvR y hi lo ∧ dvR y hi lo < y ∧ dvQ y hi lo < 18446744073709551616 := by
  have h0 : 0 < y := by omega
  rw [dvQ, dvR, hide_eq, hide_eq, Nat.mul_comm hi]
  refine ⟨(Nat.div_add_mod _ _).symm, Nat.mod_lt _ h0, ?_⟩
  rcases hy with h | h
  · subst h; omega
  · subst h; omega
theorem div_mod_of {a y Q R : Nat} (hy : 0 < y) (h : a = y * Q + R) (hR : R < y) : a / y = Q ∧ a % y = R := by
  subst h
  rw [Nat.mul_add_div hy, Nat.div_eq_of_lt hR, Nat.add_zero, Nat.mul_add_mod, Nat.mod_eq_of_lt hR]
  exact ⟨rfl, rfl⟩
theorem divide_num (y a0 a1 a2 a3 q0 q1 q2 q3 r0 r1 r2 r3 : Nat) (e3 : 18446744073709551616 * 0 + a3 = y * q3 + r3) (e2 : 18446744073709551616 * r3 + a2 = y * q2 + r2) (e1 : 18446744073709551616 * r2 + a1 = y * q1 + r1) (e0 : 18446744073709551616 * r1 + a0 = y * q0 + r0) :
    nv a0 a1 a2 a3 = y * nv q0 q1 q2 q3 + r0 := by
  rw [mul_nv]
  simp only [nv]
  generalize y * q0 = p0 at *
  generalize y * q1 = p1 at *
  generalize y * q2 = p2 at *
  generalize y * q3 = p3 at *
  omega
end Go.Pl
namespace Go.Proofs.Ytcipmpamhffclaa
open Go.Sx Go.Pl Go.RowKit
theorem run47 (a y : Nat) : (((xgo Try.prog X (bodyOf Try.f47) 25 TC [([0,1,0,1,1],5)] 50 [Dec.t, Dec.t, Dec.t, Dec.t, Dec.f] (Tree.nil) [.at []] ⟨argsTm 0 [el a, .int .u64 (y : Int)], []⟩ [] []).bind (ends Try.prog Try.f47.results.toList)).bind plainE) =
  some [EndP.mk [] [fun _ => true = true,
    fun _ => (0 : Int) ≤ (3 : Int) ∧ (3 : Int) < (4 : Int),
    fun _ => Value.int IntKind.u64 (0 : Int) = Value.int IntKind.u64 (0 : Int) ∧ Value.int IntKind.u64 (↑(limb a (3 : Nat)) : Int) = Value.int IntKind.u64 (↑(Int.toNat (↑(limb a (3 : Nat)) : Int)) : Int) ∧ (↑y : Int) = (↑(Int.toNat (↑y : Int)) : Int) ∧ (Int.toNat (↑y : Int) = (10 : Nat) ∨ Int.toNat (↑y : Int) = (16 : Nat)) ∧ (0 : Nat) < Int.toNat (↑y : Int) ∧ Int.toNat (↑(limb a (3 : Nat)) : Int) < (18446744073709551616 : Nat),
    fun _ => (0 : Int) ≤ (3 : Int) ∧ (3 : Int) < (4 : Int),
    fun _ => (3 : Nat) + (1 : Nat) ≤ (4 : Nat),
    fun _ => true = true,
    fun _ => (0 : Int) ≤ (2 : Int) ∧ (2 : Int) < (4 : Int),
    fun _ => Value.int IntKind.u64 (↑(dvR (Int.toNat (↑y : Int)) (0 : Nat) (Int.toNat (↑(limb a (3 : Nat)) : Int))) : Int) = Value.int IntKind.u64 (↑(Int.toNat (↑(dvR (Int.toNat (↑y : Int)) (0 : Nat) (Int.toNat (↑(limb a (3 : Nat)) : Int))) : Int)) : Int) ∧ Value.int IntKind.u64 (↑(limb a (2 : Nat)) : Int) = Value.int IntKind.u64 (↑(Int.toNat (↑(limb a (2 : Nat)) : Int)) : Int) ∧ (↑y : Int) = (↑(Int.toNat (↑y : Int)) : Int) ∧ (Int.toNat (↑y : Int) = (10 : Nat) ∨ Int.toNat (↑y : Int) = (16 : Nat)) ∧ Int.toNat (↑(dvR (Int.toNat (↑y : Int)) (0 : Nat) (Int.toNat (↑(limb a (3 : Nat)) : Int))) : Int) < Int.toNat (↑y : Int) ∧ Int.toNat (↑(limb a (2 : Nat)) : Int) < (18446744073709551616 : Nat),
    fun _ => (0 : Int) ≤ (2 : Int) ∧ (2 : Int) < (4 : Int),
    fun _ => (2 : Nat) + (1 : Nat) ≤ (4 : Nat),
    fun _ => true = true,
    fun _ => (0 : Int) ≤ (1 : Int) ∧ (1 : Int) < (4 : Int),
    fun _ => Value.int IntKind.u64 (↑(dvR (Int.toNat (↑y : Int)) (Int.toNat (↑(dvR (Int.toNat (↑y : Int)) (0 : Nat) (Int.toNat (↑(limb a (3 : Nat)) : Int))) : Int)) (Int.toNat (↑(limb a (2 : Nat)) : Int))) : Int) = Value.int IntKind.u64 (↑(Int.toNat (↑(dvR (Int.toNat (↑y : Int)) (Int.toNat (↑(dvR (Int.toNat (↑y : Int)) (0 : Nat) (Int.toNat (↑(limb a (3 : Nat)) : Int))) : Int)) (Int.toNat (↑(limb a (2 : Nat)) : Int))) : Int)) : Int) ∧ Value.int IntKind.u64 (↑(limb a (1 : Nat)) : Int) = Value.int IntKind.u64 (↑(Int.toNat (↑(limb a (1 : Nat)) : Int)) : Int) ∧ (↑y : Int) = (↑(Int.toNat (↑y : Int)) : Int) ∧ (Int.toNat (↑y : Int) = (10 : Nat) ∨ Int.toNat (↑y : Int) = (16 : Nat)) ∧ Int.toNat (↑(dvR (Int.toNat (↑y : Int)) (Int.toNat (↑(dvR (Int.toNat (↑y : Int)) (0 : Nat) (Int.toNat (↑(limb a (3 : Nat)) : Int))) : Int)) (Int.toNat (↑(limb a (2 : Nat)) : Int))) : Int) < Int.toNat (↑y : Int) ∧ Int.toNat (↑(limb a (1 : Nat)) : Int) < (18446744073709551616 : Nat),
    fun _ => (0 : Int) ≤ (1 : Int) ∧ (1 : Int) < (4 : Int),
    fun _ => (1 : Nat) + (1 : Nat) ≤ (4 : Nat),
    fun _ => true = true,
    fun _ => (0 : Int) ≤ (0 : Int) ∧ (0 : Int) < (4 : Int),
    fun _ => Value.int IntKind.u64 (↑(dvR (Int.toNat (↑y : Int)) (Int.toNat (↑(dvR (Int.toNat (↑y : Int)) (Int.toNat (↑(dvR (Int.toNat (↑y : Int)) (0 : Nat) (Int.toNat (↑(limb a (3 : Nat)) : Int))) : Int)) (Int.toNat (↑(limb a (2 : Nat)) : Int))) : Int)) (Int.toNat (↑(limb a (1 : Nat)) : Int))) : Int) = Value.int IntKind.u64 (↑(Int.toNat (↑(dvR (Int.toNat (↑y : Int)) (Int.toNat (↑(dvR (Int.toNat (↑y : Int)) (Int.toNat (↑(dvR (Int.toNat (↑y : Int)) (0 : Nat) (Int.toNat (↑(limb a (3 : Nat)) : Int))) : Int)) (Int.toNat (↑(limb a (2 : Nat)) : Int))) : Int)) (Int.toNat (↑(limb a (1 : Nat)) : Int))) : Int)) : Int) ∧ Value.int IntKind.u64 (↑(limb a (0 : Nat)) : Int) = Value.int IntKind.u64 (↑(Int.toNat (↑(limb a (0 : Nat)) : Int)) : Int) ∧ (↑y : Int) = (↑(Int.toNat (↑y : Int)) : Int) ∧ (Int.toNat (↑y : Int) = (10 : Nat) ∨ Int.toNat (↑y : Int) = (16 : Nat)) ∧ Int.toNat (↑(dvR (Int.toNat (↑y : Int)) (Int.toNat (↑(dvR (Int.toNat (↑y : Int)) (Int.toNat (↑(dvR (Int.toNat (↑y : Int)) (0 : Nat) (Int.toNat (↑(limb a (3 : Nat)) : Int))) : Int)) (Int.toNat (↑(limb a (2 : Nat)) : Int))) : Int)) (Int.toNat (↑(limb a (1 : Nat)) : Int))) : Int) < Int.toNat (↑y : Int) ∧ Int.toNat (↑(limb a (0 : Nat)) : Int) < (18446744073709551616 : Nat),
    fun _ => (0 : Int) ≤ (0 : Int) ∧ (0 : Int) < (4 : Int),
    fun _ => (0 : Nat) + (1 : Nat) ≤ (4 : Nat),
    fun _ => false = false,
    fun _ => (0 : Nat) + (4 : Nat) ≤ (4 : Nat)] (Res.v (Value.tuple (Array.mk [Value.agg (Array.mk [Value.int IntKind.u64 (↑(dvQ (Int.toNat (↑y : Int)) (Int.toNat (↑(dvR (Int.toNat (↑y : Int)) (Int.toNat (↑(dvR (Int.toNat (↑y : Int)) (Int.toNat (↑(dvR (Int.toNat (↑y : Int)) (0 : Nat) (Int.toNat (↑(limb a (3 : Nat)) : Int))) : Int)) (Int.toNat (↑(limb a (2 : Nat)) : Int))) : Int)) (Int.toNat (↑(limb a (1 : Nat)) : Int))) : Int)) (Int.toNat (↑(limb a (0 : Nat)) : Int))) : Int), Value.int IntKind.u64 (↑(dvQ (Int.toNat (↑y : Int)) (Int.toNat (↑(dvR (Int.toNat (↑y : Int)) (Int.toNat (↑(dvR (Int.toNat (↑y : Int)) (0 : Nat) (Int.toNat (↑(limb a (3 : Nat)) : Int))) : Int)) (Int.toNat (↑(limb a (2 : Nat)) : Int))) : Int)) (Int.toNat (↑(limb a (1 : Nat)) : Int))) : Int), Value.int IntKind.u64 (↑(dvQ (Int.toNat (↑y : Int)) (Int.toNat (↑(dvR (Int.toNat (↑y : Int)) (0 : Nat) (Int.toNat (↑(limb a (3 : Nat)) : Int))) : Int)) (Int.toNat (↑(limb a (2 : Nat)) : Int))) : Int), Value.int IntKind.u64 (↑(dvQ (Int.toNat (↑y : Int)) (0 : Nat) (Int.toNat (↑(limb a (3 : Nat)) : Int))) : Int)]), Value.int IntKind.u64 (↑(dvR (Int.toNat (↑y : Int)) (Int.toNat (↑(dvR (Int.toNat (↑y : Int)) (Int.toNat (↑(dvR (Int.toNat (↑y : Int)) (Int.toNat (↑(dvR (Int.toNat (↑y : Int)) (0 : Nat) (Int.toNat (↑(limb a (3 : Nat)) : Int))) : Int)) (Int.toNat (↑(limb a (2 : Nat)) : Int))) : Int)) (Int.toNat (↑(limb a (1 : Nat)) : Int))) : Int)) (Int.toNat (↑(limb a (0 : Nat)) : Int))) : Int)])))]
  := by kernel_rfl


theorem divide_ok (a y : Nat) (ha : a < top) (hy : y = 10 ∨ y = 16) (w : World) : Calls Try.prog 47 [el a, .int .u64 (y : Int)].toArray w (fun E w' => ∃ v, E = .returned v ∧ Res.ok w w' (.v (.tuple #[el (a / y), .int .u64 ((a % y : Nat) : Int)])) v ∧ Below w.heap.size w w') := by
  have h0 := limb_lt a 0
  have h1 := limb_lt a 1
  have h2 := limb_lt a 2
  have h3 := limb_lt a 3
  have hs := nv_self a ha
  have hyp : 0 < y := by omega
  obtain ⟨e3, r3, q3⟩ := dv_eq y 0 (limb a 3) hy hyp h3
  obtain ⟨e2, r2, q2⟩ := dv_eq y (dvR y 0 (limb a 3)) (limb a 2) hy r3 h2
  obtain ⟨e1, r1, q1⟩ := dv_eq y (dvR y (dvR y 0 (limb a 3)) (limb a 2)) (limb a 1) hy r2 h1
  obtain ⟨e0, r0, q0⟩ := dv_eq y (dvR y (dvR y (dvR y 0 (limb a 3)) (limb a 2)) (limb a 1)) (limb a 0) hy r1 h0
  refine con_end (calls_plain hm Try.func47 (by kernel_rfl) rfl rfl 50 _ _ (run47 a y) ⟨fun _ => ⟨?_, ?_⟩, trivial⟩)
  · simp only [hold_cons, hold_nil, and_true, Int.toNat_natCast]
    repeat' apply And.intro
    all_goals (intro _ _; first | exact True.intro | omega | skip)
    · exact ⟨trivial, trivial, trivial, hy, hyp, h3⟩
    · exact ⟨trivial, trivial, trivial, hy, r3, h2⟩
    · exact ⟨trivial, trivial, trivial, hy, r2, h1⟩
    · exact ⟨trivial, trivial, trivial, hy, r1, h0⟩
  · simp only [Int.toNat_natCast]
    have hq := divide_num y _ _ _ _ _ _ _ _ _ _ _ _ e3 e2 e1 e0
    rw [hs] at hq
    obtain ⟨hd, hmd⟩ := div_mod_of hyp hq r0
    rw [hd, hmd, el_nv q0 q1 q2 q3]
noncomputable def gDivide : List RV → Option (Res × Prop)
  | [.v x, .v (.int .u64 y)] => match unEl x with
    | some a => some (.v (.tuple #[el (a / y.toNat), .int .u64 ((hide (a % y.toNat) : Nat) : Int)]), x = el a ∧ y = (y.toNat : Int) ∧ (y.toNat = 10 ∨ y.toNat = 16) ∧ a < top)
    | _ => none
  | _ => none
theorem gDivide_ok (rvs : List RV) (r : Res) (p : Prop) (vs : List Value) (w : World) (hg : gDivide rvs = some (r, p)) (hp : p) (hv : RVs (wmem w) rvs vs) : Calls Try.prog 47 vs.toArray w (fun E w' => ∃ v, E = .returned v ∧ r.ok w w' v ∧ Below w.heap.size w w') := by
  unfold gDivide at hg
  split at hg
  · rename_i x y
    split at hg
    · simp only [Option.some.injEq, Prod.mk.injEq] at hg
      obtain ⟨rfl, rfl⟩ := hg
      obtain ⟨h1, h3, h4, h6⟩ := hp
      rw [rvs2 hv, h1, hide_eq]
      have := divide_ok _ _ h6 h4 w
      rw [← h3] at this
      exact this
    · cases hg
  · cases hg
noncomputable def TD : Con Try.prog := TC.add 47 gDivide gDivide_ok
end Go.Proofs.Ytcipmpamhffclaa
