/- The little fields' contracts. -/
import Derived.Test.YtpghmnpbfaichaaF5
namespace Go.Pl
open Go.Sx
/-- A little field's modulus. -/
noncomputable def pS (s : Int) : Nat := hide (if s = 0 then 16513537 else 16521217)
theorem pS0 : pS 0 = 16513537 := by rw [pS, hide_eq]; rfl
theorem pS1 : pS 1 = 16521217 := by rw [pS, hide_eq]; rfl
end Go.Pl
namespace Go.Proofs.Ytpghmnpbfaichaa
open Go.Sx Go.Pl Go.RowKit
set_option linter.unusedVariables false
noncomputable def gAddN : List RV → Option (Res × Prop)
  | [.v (.agg ⟨[.int .u64 m, b1, b2, b3, b4, .int .u64 s, b6, b7, b8, b9, b10]⟩), .v x, .v y] => match unEl x, unEl y with
    | some a, some b => some (.v (el (fR s.toNat (a + b))), (.agg ⟨[.int .u64 m, b1, b2, b3, b4, .int .u64 s, b6, b7, b8, b9, b10]⟩ = nP ∨ .agg ⟨[.int .u64 m, b1, b2, b3, b4, .int .u64 s, b6, b7, b8, b9, b10]⟩ = nQ) ∧ x = el a ∧ y = el b ∧ a < top ∧ b < top)
    | _, _ => none
  | _ => none
theorem gAddN_ok (rvs : List RV) (r : Res) (p : Prop) (vs : List Value) (w : World) (hg : gAddN rvs = some (r, p)) (hp : p) (hv : RVs (wmem w) rvs vs) : Calls Try.prog 76 vs.toArray w (fun E w' => ∃ v, E = .returned v ∧ r.ok w w' v ∧ Below w.heap.size w w') := by
  unfold gAddN at hg
  split at hg
  · split at hg
    · simp only [Option.some.injEq, Prod.mk.injEq] at hg
      obtain ⟨rfl, rfl⟩ := hg
      obtain ⟨h1, h2, h3, h4, h5⟩ := hp
      rw [rvs3 hv, h2, h3]
      rcases h1 with h1 | h1
      · rw [h1]
        simp only [nP, Value.agg.injEq, Array.mk.injEq, List.cons.injEq, Value.int.injEq] at h1
        rw [h1.2.2.2.2.2.1.2]
        exact adp_ok _ _ h4 h5 w
      · rw [h1]
        simp only [nQ, Value.agg.injEq, Array.mk.injEq, List.cons.injEq, Value.int.injEq] at h1
        rw [h1.2.2.2.2.2.1.2]
        exact adq_ok _ _ h4 h5 w
    · cases hg
  · cases hg
noncomputable def gMulN : List RV → Option (Res × Prop)
  | [.v (.agg ⟨[.int .u64 m, b1, b2, b3, b4, .int .u64 s, b6, b7, b8, b9, b10]⟩), .v x, .v y] => match unEl x, unEl y with
    | some a, some b => some (.v (el (fR s.toNat (a * b))), (.agg ⟨[.int .u64 m, b1, b2, b3, b4, .int .u64 s, b6, b7, b8, b9, b10]⟩ = nP ∨ .agg ⟨[.int .u64 m, b1, b2, b3, b4, .int .u64 s, b6, b7, b8, b9, b10]⟩ = nQ) ∧ x = el a ∧ y = el b ∧ a < top ∧ b < top)
    | _, _ => none
  | _ => none
theorem gMulN_ok (rvs : List RV) (r : Res) (p : Prop) (vs : List Value) (w : World) (hg : gMulN rvs = some (r, p)) (hp : p) (hv : RVs (wmem w) rvs vs) : Calls Try.prog 131 vs.toArray w (fun E w' => ∃ v, E = .returned v ∧ r.ok w w' v ∧ Below w.heap.size w w') := by
  unfold gMulN at hg
  split at hg
  · split at hg
    · simp only [Option.some.injEq, Prod.mk.injEq] at hg
      obtain ⟨rfl, rfl⟩ := hg
      obtain ⟨h1, h2, h3, h4, h5⟩ := hp
      rw [rvs3 hv, h2, h3]
      rcases h1 with h1 | h1
      · rw [h1]
        simp only [nP, Value.agg.injEq, Array.mk.injEq, List.cons.injEq, Value.int.injEq] at h1
        rw [h1.2.2.2.2.2.1.2]
        exact mlp_ok _ _ h4 h5 w
      · rw [h1]
        simp only [nQ, Value.agg.injEq, Array.mk.injEq, List.cons.injEq, Value.int.injEq] at h1
        rw [h1.2.2.2.2.2.1.2]
        exact mlq_ok _ _ h4 h5 w
    · cases hg
  · cases hg
noncomputable def gNegN : List RV → Option (Res × Prop)
  | [.v (.agg ⟨[.int .u64 m, b1, b2, b3, b4, .int .u64 s, b6, b7, b8, b9, b10]⟩), .v x] => match unEl x with
    | some a => some (.v (el (fN s.toNat a)), (.agg ⟨[.int .u64 m, b1, b2, b3, b4, .int .u64 s, b6, b7, b8, b9, b10]⟩ = nP ∨ .agg ⟨[.int .u64 m, b1, b2, b3, b4, .int .u64 s, b6, b7, b8, b9, b10]⟩ = nQ) ∧ x = el a ∧ a < top)
    | _ => none
  | _ => none
theorem gNegN_ok (rvs : List RV) (r : Res) (p : Prop) (vs : List Value) (w : World) (hg : gNegN rvs = some (r, p)) (hp : p) (hv : RVs (wmem w) rvs vs) : Calls Try.prog 119 vs.toArray w (fun E w' => ∃ v, E = .returned v ∧ r.ok w w' v ∧ Below w.heap.size w w') := by
  unfold gNegN at hg
  split at hg
  · split at hg
    · simp only [Option.some.injEq, Prod.mk.injEq] at hg
      obtain ⟨rfl, rfl⟩ := hg
      obtain ⟨h1, h2, h4⟩ := hp
      rw [rvs2 hv, h2]
      rcases h1 with h1 | h1
      · rw [h1]
        simp only [nP, Value.agg.injEq, Array.mk.injEq, List.cons.injEq, Value.int.injEq] at h1
        rw [h1.2.2.2.2.2.1.2]
        exact ngp_ok _ h4 w
      · rw [h1]
        simp only [nQ, Value.agg.injEq, Array.mk.injEq, List.cons.injEq, Value.int.injEq] at h1
        rw [h1.2.2.2.2.2.1.2]
        exact ngq_ok _ h4 w
    · cases hg
  · cases hg
noncomputable def gMod : List RV → Option (Res × Prop)
  | [.v (.int .i64 s)] => some (.v (.tuple #[el (pS s), .int .i64 0]), s = 0 ∨ s = 1)
  | _ => none
theorem gMod_ok (rvs : List RV) (r : Res) (p : Prop) (vs : List Value) (w : World) (hg : gMod rvs = some (r, p)) (hp : p) (hv : RVs (wmem w) rvs vs) : Calls Try.prog 66 vs.toArray w (fun E w' => ∃ v, E = .returned v ∧ r.ok w w' v ∧ Below w.heap.size w w') := by
  unfold gMod at hg
  split at hg
  · simp only [Option.some.injEq, Prod.mk.injEq] at hg
    obtain ⟨rfl, rfl⟩ := hg
    rw [rvs1 hv]
    rcases hp with rfl | rfl
    · rw [pS0, el_small 16513537 (by omega)]
      refine con_end (calls_plain hm Try.func66 (by kernel_rfl) rfl rfl 60 _ _ (md0 0) ?_)
      lvs
      all_goals first
        | exact rfl
        | (hld
           all_goals (intro _ _; first | exact True.intro | omega))
    · rw [pS1, el_small 16521217 (by omega)]
      refine con_end (calls_plain hm Try.func66 (by kernel_rfl) rfl rfl 60 _ _ (md1 0) ?_)
      lvs
      all_goals first
        | exact rfl
        | (hld
           all_goals (intro _ _; first | exact True.intro | omega))
  · cases hg
noncomputable def L6 : Con Try.prog := (((L4.add 76 gAddN gAddN_ok).add 131 gMulN gMulN_ok).add 119 gNegN gNegN_ok).add 66 gMod gMod_ok
end Go.Proofs.Ytpghmnpbfaichaa

namespace Go.Pl
open Go.Sx
noncomputable def elC (n : Nat) : List Value := [.int .u64 (limb n 0 : Nat), .int .u64 (limb n 1 : Nat), .int .u64 (limb n 2 : Nat), .int .u64 (limb n 3 : Nat)]
noncomputable def elsC (l : List Nat) : List Value := l.flatMap elC
theorem elsC_cons (x : Nat) (l : List Nat) : elsC (x :: l) = elC x ++ elsC l := rfl
theorem elsC_append (a b : List Nat) : elsC (a ++ b) = elsC a ++ elsC b := by simp [elsC]
theorem elsC_length (l : List Nat) : (elsC l).length = l.length * 4 := by
  induction l with
  | nil => rfl
  | cons x r ih => rw [elsC_cons, List.length_append, ih, List.length_cons]; simp [elC]; omega
def unEs : List Value → List Nat
  | a :: b :: c :: d :: r => nv (unI a).toNat (unI b).toNat (unI c).toNat (unI d).toNat :: unEs r
  | _ => []
theorem unEs_elsC : ∀ (l : List Nat), (∀ x ∈ l, x < top) → unEs (elsC l) = l
  | [], _ => rfl
  | x :: r, h => by
    rw [elsC_cons]
    simp only [elC, List.cons_append, List.nil_append, unEs, unI, Int.toNat_natCast]
    rw [nv_limb, Nat.mod_eq_of_lt (h x List.mem_cons_self), unEs_elsC r fun y hy => h y (List.mem_cons_of_mem _ hy)]
theorem els_at {M : Mem} {ad : Addr} (pre l : List Nat) (x : Nat) (h : MCells M (some ad) (elsC (pre ++ x :: l))) : MCells M (some (ad.add (pre.length * 4))) (elC x) := by
  refine MCells.at h _ _ fun j v hj => ?_
  rw [elsC_append, elsC_cons, List.getElem?_append_right (by rw [elsC_length]; omega), elsC_length, Nat.add_sub_cancel_left, List.getElem?_append_left (List.getElem?_eq_some_iff.1 hj).1]
  exact hj
theorem els_get {M : Mem} {oa : Option Addr} {l : List Nat} (h : elsC l = [] ∨ MCells M oa (elsC l)) (j : Nat) (hj : j < l.length) : ∃ ad, oa = some ad ∧ MCells M (some (ad.add (j * 4))) (elC (l.getD j 0)) := by
  have he : l = l.take j ++ l.getD j 0 :: l.drop (j + 1) := by
    have h1 : l.drop j = l.getD j 0 :: l.drop (j + 1) := by
      rw [List.drop_eq_getElem_cons hj, List.getD_eq_getElem?_getD, List.getElem?_eq_getElem hj]
      rfl
    rw [← h1, List.take_append_drop]
  have hne : MCells M oa (elsC l) := by
    rcases h with h | h
    · rw [he, elsC_append, elsC_cons] at h; simp [elC] at h
    · exact h
  obtain ⟨ad, rfl, hc⟩ := hne
  have := els_at (l.take j) (l.drop (j + 1)) (l.getD j 0) (M := M) (ad := ad) (by rw [← he]; exact ⟨ad, rfl, hc⟩)
  rw [List.length_take, Nat.min_eq_left (by omega)] at this
  exact ⟨ad, rfl, this⟩
noncomputable def getE (cs : List Value) (a : Int) : Nat := hide ((unEs cs).getD a.toNat 0)
noncomputable def eAdd (s : Int) (a b : Nat) : Nat := hide (fR (pS s) (a + b))
noncomputable def eMul (s : Int) (a b : Nat) : Nat := hide (fR (pS s) (a * b))
noncomputable def eNeg (s : Int) (a : Nat) : Nat := hide (fN (pS s) a)
end Go.Pl
namespace Go.Proofs.Ytpghmnpbfaichaa
open Go.Sx Go.Pl Go.RowKit
set_option linter.unusedVariables false
theorem fad0 (a b : Nat) : (((xgo Try.prog X (bodyOf Try.f39) 21 L6 [] 60 [.f] (.nil) [.at []] ⟨argsTm 0 [.int .i64 0, el a, el b], []⟩ [] []).bind (ends Try.prog Try.f39.results.toList)).bind plainE) =
  some [EndP.mk [] [fun _ => True,
    fun _ => (11 : Nat) ≤ (11 : Nat),
    fun _ => false = false,
    fun _ => (Value.agg (Array.mk [Value.int IntKind.u64 (16513537 : Int), Value.int IntKind.u64 (0 : Int), Value.int IntKind.u64 (0 : Int), Value.int IntKind.u64 (0 : Int), Value.int IntKind.i64 (9 : Int), Value.int IntKind.u64 (16513537 : Int), Value.int IntKind.u64 (0 : Int), Value.int IntKind.u64 (0 : Int), Value.int IntKind.u64 (0 : Int), Value.int IntKind.u64 (0 : Int), Value.int IntKind.u64 (0 : Int)]) = Value.agg (Array.mk [Value.int IntKind.u64 (16513537 : Int), Value.int IntKind.u64 (0 : Int), Value.int IntKind.u64 (0 : Int), Value.int IntKind.u64 (0 : Int), Value.int IntKind.i64 (9 : Int), Value.int IntKind.u64 (16513537 : Int), Value.int IntKind.u64 (0 : Int), Value.int IntKind.u64 (0 : Int), Value.int IntKind.u64 (0 : Int), Value.int IntKind.u64 (0 : Int), Value.int IntKind.u64 (0 : Int)]) ∨ Value.agg (Array.mk [Value.int IntKind.u64 (16513537 : Int), Value.int IntKind.u64 (0 : Int), Value.int IntKind.u64 (0 : Int), Value.int IntKind.u64 (0 : Int), Value.int IntKind.i64 (9 : Int), Value.int IntKind.u64 (16513537 : Int), Value.int IntKind.u64 (0 : Int), Value.int IntKind.u64 (0 : Int), Value.int IntKind.u64 (0 : Int), Value.int IntKind.u64 (0 : Int), Value.int IntKind.u64 (0 : Int)]) = Value.agg (Array.mk [Value.int IntKind.u64 (16521217 : Int), Value.int IntKind.u64 (0 : Int), Value.int IntKind.u64 (0 : Int), Value.int IntKind.u64 (0 : Int), Value.int IntKind.i64 (11 : Int), Value.int IntKind.u64 (16521217 : Int), Value.int IntKind.u64 (0 : Int), Value.int IntKind.u64 (0 : Int), Value.int IntKind.u64 (0 : Int), Value.int IntKind.u64 (0 : Int), Value.int IntKind.u64 (0 : Int)])) ∧ el a = el (elN a) ∧ el b = el (elN b) ∧ elN a < top ∧ elN b < top,
    fun _ => (0 : Nat) + (4 : Nat) ≤ (4 : Nat)] (Res.v (el (fR (16513537 : Nat) (elN a + elN b))))]
  := by kernel_rfl

theorem fml0 (a b : Nat) : (((xgo Try.prog X (bodyOf Try.f130) 21 L6 [] 60 [.f] (.nil) [.at []] ⟨argsTm 0 [.int .i64 0, el a, el b], []⟩ [] []).bind (ends Try.prog Try.f130.results.toList)).bind plainE) =
  some [EndP.mk [] [fun _ => True,
    fun _ => (11 : Nat) ≤ (11 : Nat),
    fun _ => false = false,
    fun _ => (Value.agg (Array.mk [Value.int IntKind.u64 (16513537 : Int), Value.int IntKind.u64 (0 : Int), Value.int IntKind.u64 (0 : Int), Value.int IntKind.u64 (0 : Int), Value.int IntKind.i64 (9 : Int), Value.int IntKind.u64 (16513537 : Int), Value.int IntKind.u64 (0 : Int), Value.int IntKind.u64 (0 : Int), Value.int IntKind.u64 (0 : Int), Value.int IntKind.u64 (0 : Int), Value.int IntKind.u64 (0 : Int)]) = Value.agg (Array.mk [Value.int IntKind.u64 (16513537 : Int), Value.int IntKind.u64 (0 : Int), Value.int IntKind.u64 (0 : Int), Value.int IntKind.u64 (0 : Int), Value.int IntKind.i64 (9 : Int), Value.int IntKind.u64 (16513537 : Int), Value.int IntKind.u64 (0 : Int), Value.int IntKind.u64 (0 : Int), Value.int IntKind.u64 (0 : Int), Value.int IntKind.u64 (0 : Int), Value.int IntKind.u64 (0 : Int)]) ∨ Value.agg (Array.mk [Value.int IntKind.u64 (16513537 : Int), Value.int IntKind.u64 (0 : Int), Value.int IntKind.u64 (0 : Int), Value.int IntKind.u64 (0 : Int), Value.int IntKind.i64 (9 : Int), Value.int IntKind.u64 (16513537 : Int), Value.int IntKind.u64 (0 : Int), Value.int IntKind.u64 (0 : Int), Value.int IntKind.u64 (0 : Int), Value.int IntKind.u64 (0 : Int), Value.int IntKind.u64 (0 : Int)]) = Value.agg (Array.mk [Value.int IntKind.u64 (16521217 : Int), Value.int IntKind.u64 (0 : Int), Value.int IntKind.u64 (0 : Int), Value.int IntKind.u64 (0 : Int), Value.int IntKind.i64 (11 : Int), Value.int IntKind.u64 (16521217 : Int), Value.int IntKind.u64 (0 : Int), Value.int IntKind.u64 (0 : Int), Value.int IntKind.u64 (0 : Int), Value.int IntKind.u64 (0 : Int), Value.int IntKind.u64 (0 : Int)])) ∧ el a = el (elN a) ∧ el b = el (elN b) ∧ elN a < top ∧ elN b < top,
    fun _ => (0 : Nat) + (4 : Nat) ≤ (4 : Nat)] (Res.v (el (fR (16513537 : Nat) (elN a * elN b))))]
  := by kernel_rfl

theorem fng0 (a : Nat) : (((xgo Try.prog X (bodyOf Try.f123) 18 L6 [] 60 [.f] (.nil) [.at []] ⟨argsTm 0 [.int .i64 0, el a], []⟩ [] []).bind (ends Try.prog Try.f123.results.toList)).bind plainE) =
  some [EndP.mk [] [fun _ => True,
    fun _ => (11 : Nat) ≤ (11 : Nat),
    fun _ => false = false,
    fun _ => (Value.agg (Array.mk [Value.int IntKind.u64 (16513537 : Int), Value.int IntKind.u64 (0 : Int), Value.int IntKind.u64 (0 : Int), Value.int IntKind.u64 (0 : Int), Value.int IntKind.i64 (9 : Int), Value.int IntKind.u64 (16513537 : Int), Value.int IntKind.u64 (0 : Int), Value.int IntKind.u64 (0 : Int), Value.int IntKind.u64 (0 : Int), Value.int IntKind.u64 (0 : Int), Value.int IntKind.u64 (0 : Int)]) = Value.agg (Array.mk [Value.int IntKind.u64 (16513537 : Int), Value.int IntKind.u64 (0 : Int), Value.int IntKind.u64 (0 : Int), Value.int IntKind.u64 (0 : Int), Value.int IntKind.i64 (9 : Int), Value.int IntKind.u64 (16513537 : Int), Value.int IntKind.u64 (0 : Int), Value.int IntKind.u64 (0 : Int), Value.int IntKind.u64 (0 : Int), Value.int IntKind.u64 (0 : Int), Value.int IntKind.u64 (0 : Int)]) ∨ Value.agg (Array.mk [Value.int IntKind.u64 (16513537 : Int), Value.int IntKind.u64 (0 : Int), Value.int IntKind.u64 (0 : Int), Value.int IntKind.u64 (0 : Int), Value.int IntKind.i64 (9 : Int), Value.int IntKind.u64 (16513537 : Int), Value.int IntKind.u64 (0 : Int), Value.int IntKind.u64 (0 : Int), Value.int IntKind.u64 (0 : Int), Value.int IntKind.u64 (0 : Int), Value.int IntKind.u64 (0 : Int)]) = Value.agg (Array.mk [Value.int IntKind.u64 (16521217 : Int), Value.int IntKind.u64 (0 : Int), Value.int IntKind.u64 (0 : Int), Value.int IntKind.u64 (0 : Int), Value.int IntKind.i64 (11 : Int), Value.int IntKind.u64 (16521217 : Int), Value.int IntKind.u64 (0 : Int), Value.int IntKind.u64 (0 : Int), Value.int IntKind.u64 (0 : Int), Value.int IntKind.u64 (0 : Int), Value.int IntKind.u64 (0 : Int)])) ∧ el a = el (elN a) ∧ elN a < top,
    fun _ => (0 : Nat) + (4 : Nat) ≤ (4 : Nat)] (Res.v (el (fN (16513537 : Nat) (elN a))))]
  := by kernel_rfl

theorem fad1 (a b : Nat) : (((xgo Try.prog X (bodyOf Try.f39) 21 L6 [] 60 [.f] (.nil) [.at []] ⟨argsTm 0 [.int .i64 1, el a, el b], []⟩ [] []).bind (ends Try.prog Try.f39.results.toList)).bind plainE) =
  some [EndP.mk [] [fun _ => True,
    fun _ => (11 : Nat) ≤ (11 : Nat),
    fun _ => false = false,
    fun _ => (Value.agg (Array.mk [Value.int IntKind.u64 (16521217 : Int), Value.int IntKind.u64 (0 : Int), Value.int IntKind.u64 (0 : Int), Value.int IntKind.u64 (0 : Int), Value.int IntKind.i64 (11 : Int), Value.int IntKind.u64 (16521217 : Int), Value.int IntKind.u64 (0 : Int), Value.int IntKind.u64 (0 : Int), Value.int IntKind.u64 (0 : Int), Value.int IntKind.u64 (0 : Int), Value.int IntKind.u64 (0 : Int)]) = Value.agg (Array.mk [Value.int IntKind.u64 (16513537 : Int), Value.int IntKind.u64 (0 : Int), Value.int IntKind.u64 (0 : Int), Value.int IntKind.u64 (0 : Int), Value.int IntKind.i64 (9 : Int), Value.int IntKind.u64 (16513537 : Int), Value.int IntKind.u64 (0 : Int), Value.int IntKind.u64 (0 : Int), Value.int IntKind.u64 (0 : Int), Value.int IntKind.u64 (0 : Int), Value.int IntKind.u64 (0 : Int)]) ∨ Value.agg (Array.mk [Value.int IntKind.u64 (16521217 : Int), Value.int IntKind.u64 (0 : Int), Value.int IntKind.u64 (0 : Int), Value.int IntKind.u64 (0 : Int), Value.int IntKind.i64 (11 : Int), Value.int IntKind.u64 (16521217 : Int), Value.int IntKind.u64 (0 : Int), Value.int IntKind.u64 (0 : Int), Value.int IntKind.u64 (0 : Int), Value.int IntKind.u64 (0 : Int), Value.int IntKind.u64 (0 : Int)]) = Value.agg (Array.mk [Value.int IntKind.u64 (16521217 : Int), Value.int IntKind.u64 (0 : Int), Value.int IntKind.u64 (0 : Int), Value.int IntKind.u64 (0 : Int), Value.int IntKind.i64 (11 : Int), Value.int IntKind.u64 (16521217 : Int), Value.int IntKind.u64 (0 : Int), Value.int IntKind.u64 (0 : Int), Value.int IntKind.u64 (0 : Int), Value.int IntKind.u64 (0 : Int), Value.int IntKind.u64 (0 : Int)])) ∧ el a = el (elN a) ∧ el b = el (elN b) ∧ elN a < top ∧ elN b < top,
    fun _ => (0 : Nat) + (4 : Nat) ≤ (4 : Nat)] (Res.v (el (fR (16521217 : Nat) (elN a + elN b))))]
  := by kernel_rfl

theorem fml1 (a b : Nat) : (((xgo Try.prog X (bodyOf Try.f130) 21 L6 [] 60 [.f] (.nil) [.at []] ⟨argsTm 0 [.int .i64 1, el a, el b], []⟩ [] []).bind (ends Try.prog Try.f130.results.toList)).bind plainE) =
  some [EndP.mk [] [fun _ => True,
    fun _ => (11 : Nat) ≤ (11 : Nat),
    fun _ => false = false,
    fun _ => (Value.agg (Array.mk [Value.int IntKind.u64 (16521217 : Int), Value.int IntKind.u64 (0 : Int), Value.int IntKind.u64 (0 : Int), Value.int IntKind.u64 (0 : Int), Value.int IntKind.i64 (11 : Int), Value.int IntKind.u64 (16521217 : Int), Value.int IntKind.u64 (0 : Int), Value.int IntKind.u64 (0 : Int), Value.int IntKind.u64 (0 : Int), Value.int IntKind.u64 (0 : Int), Value.int IntKind.u64 (0 : Int)]) = Value.agg (Array.mk [Value.int IntKind.u64 (16513537 : Int), Value.int IntKind.u64 (0 : Int), Value.int IntKind.u64 (0 : Int), Value.int IntKind.u64 (0 : Int), Value.int IntKind.i64 (9 : Int), Value.int IntKind.u64 (16513537 : Int), Value.int IntKind.u64 (0 : Int), Value.int IntKind.u64 (0 : Int), Value.int IntKind.u64 (0 : Int), Value.int IntKind.u64 (0 : Int), Value.int IntKind.u64 (0 : Int)]) ∨ Value.agg (Array.mk [Value.int IntKind.u64 (16521217 : Int), Value.int IntKind.u64 (0 : Int), Value.int IntKind.u64 (0 : Int), Value.int IntKind.u64 (0 : Int), Value.int IntKind.i64 (11 : Int), Value.int IntKind.u64 (16521217 : Int), Value.int IntKind.u64 (0 : Int), Value.int IntKind.u64 (0 : Int), Value.int IntKind.u64 (0 : Int), Value.int IntKind.u64 (0 : Int), Value.int IntKind.u64 (0 : Int)]) = Value.agg (Array.mk [Value.int IntKind.u64 (16521217 : Int), Value.int IntKind.u64 (0 : Int), Value.int IntKind.u64 (0 : Int), Value.int IntKind.u64 (0 : Int), Value.int IntKind.i64 (11 : Int), Value.int IntKind.u64 (16521217 : Int), Value.int IntKind.u64 (0 : Int), Value.int IntKind.u64 (0 : Int), Value.int IntKind.u64 (0 : Int), Value.int IntKind.u64 (0 : Int), Value.int IntKind.u64 (0 : Int)])) ∧ el a = el (elN a) ∧ el b = el (elN b) ∧ elN a < top ∧ elN b < top,
    fun _ => (0 : Nat) + (4 : Nat) ≤ (4 : Nat)] (Res.v (el (fR (16521217 : Nat) (elN a * elN b))))]
  := by kernel_rfl

theorem fng1 (a : Nat) : (((xgo Try.prog X (bodyOf Try.f123) 18 L6 [] 60 [.f] (.nil) [.at []] ⟨argsTm 0 [.int .i64 1, el a], []⟩ [] []).bind (ends Try.prog Try.f123.results.toList)).bind plainE) =
  some [EndP.mk [] [fun _ => True,
    fun _ => (11 : Nat) ≤ (11 : Nat),
    fun _ => false = false,
    fun _ => (Value.agg (Array.mk [Value.int IntKind.u64 (16521217 : Int), Value.int IntKind.u64 (0 : Int), Value.int IntKind.u64 (0 : Int), Value.int IntKind.u64 (0 : Int), Value.int IntKind.i64 (11 : Int), Value.int IntKind.u64 (16521217 : Int), Value.int IntKind.u64 (0 : Int), Value.int IntKind.u64 (0 : Int), Value.int IntKind.u64 (0 : Int), Value.int IntKind.u64 (0 : Int), Value.int IntKind.u64 (0 : Int)]) = Value.agg (Array.mk [Value.int IntKind.u64 (16513537 : Int), Value.int IntKind.u64 (0 : Int), Value.int IntKind.u64 (0 : Int), Value.int IntKind.u64 (0 : Int), Value.int IntKind.i64 (9 : Int), Value.int IntKind.u64 (16513537 : Int), Value.int IntKind.u64 (0 : Int), Value.int IntKind.u64 (0 : Int), Value.int IntKind.u64 (0 : Int), Value.int IntKind.u64 (0 : Int), Value.int IntKind.u64 (0 : Int)]) ∨ Value.agg (Array.mk [Value.int IntKind.u64 (16521217 : Int), Value.int IntKind.u64 (0 : Int), Value.int IntKind.u64 (0 : Int), Value.int IntKind.u64 (0 : Int), Value.int IntKind.i64 (11 : Int), Value.int IntKind.u64 (16521217 : Int), Value.int IntKind.u64 (0 : Int), Value.int IntKind.u64 (0 : Int), Value.int IntKind.u64 (0 : Int), Value.int IntKind.u64 (0 : Int), Value.int IntKind.u64 (0 : Int)]) = Value.agg (Array.mk [Value.int IntKind.u64 (16521217 : Int), Value.int IntKind.u64 (0 : Int), Value.int IntKind.u64 (0 : Int), Value.int IntKind.u64 (0 : Int), Value.int IntKind.i64 (11 : Int), Value.int IntKind.u64 (16521217 : Int), Value.int IntKind.u64 (0 : Int), Value.int IntKind.u64 (0 : Int), Value.int IntKind.u64 (0 : Int), Value.int IntKind.u64 (0 : Int), Value.int IntKind.u64 (0 : Int)])) ∧ el a = el (elN a) ∧ elN a < top,
    fun _ => (0 : Nat) + (4 : Nat) ≤ (4 : Nat)] (Res.v (el (fN (16521217 : Nat) (elN a))))]
  := by kernel_rfl

noncomputable def gFAdd : List RV → Option (Res × Prop)
  | [.v (.int .i64 s), .v x, .v y] => match unEl x, unEl y with
    | some a, some b => some (.v (el (eAdd s a b)), (s = 0 ∨ s = 1) ∧ x = el a ∧ y = el b ∧ a < top ∧ b < top)
    | _, _ => none
  | _ => none
theorem gFAdd_ok (rvs : List RV) (r : Res) (p : Prop) (vs : List Value) (w : World) (hg : gFAdd rvs = some (r, p)) (hp : p) (hv : RVs (wmem w) rvs vs) : Calls Try.prog 39 vs.toArray w (fun E w' => ∃ v, E = .returned v ∧ r.ok w w' v ∧ Below w.heap.size w w') := by
  unfold gFAdd at hg
  split at hg
  · split at hg
    · rename_i a b _ _
      simp only [Option.some.injEq, Prod.mk.injEq] at hg
      obtain ⟨rfl, rfl⟩ := hg
      obtain ⟨h1, h2, h3, h4, h5⟩ := hp
      rw [rvs3 hv, h2, h3, eAdd, hide_eq]
      have ea := elN_eq h4
      have eb := elN_eq h5
      rcases h1 with rfl | rfl
      · have sA : (nP = nP ∨ nP = nQ) ∧ el a = el (elN a) ∧ el b = el (elN b) ∧ elN a < top ∧ elN b < top := by
          rw [ea, eb]; exact ⟨.inl rfl, rfl, rfl, h4, h5⟩
        rw [pS0]
        refine con_end (calls_plain hm Try.func39 (by kernel_rfl) rfl rfl 60 _ _ (fad0 a b) ?_)
        lvs
        all_goals first
          | exact congrArg (fun q => Res.v (el q)) (by rw [ea, eb])
          | (hld
             all_goals (intro _ _; first | exact True.intro | exact sA | exact rfl | omega))
      · have sA : (nQ = nP ∨ nQ = nQ) ∧ el a = el (elN a) ∧ el b = el (elN b) ∧ elN a < top ∧ elN b < top := by
          rw [ea, eb]; exact ⟨.inr rfl, rfl, rfl, h4, h5⟩
        rw [pS1]
        refine con_end (calls_plain hm Try.func39 (by kernel_rfl) rfl rfl 60 _ _ (fad1 a b) ?_)
        lvs
        all_goals first
          | exact congrArg (fun q => Res.v (el q)) (by rw [ea, eb])
          | (hld
             all_goals (intro _ _; first | exact True.intro | exact sA | exact rfl | omega))
    · cases hg
  · cases hg
noncomputable def gFMul : List RV → Option (Res × Prop)
  | [.v (.int .i64 s), .v x, .v y] => match unEl x, unEl y with
    | some a, some b => some (.v (el (eMul s a b)), (s = 0 ∨ s = 1) ∧ x = el a ∧ y = el b ∧ a < top ∧ b < top)
    | _, _ => none
  | _ => none
theorem gFMul_ok (rvs : List RV) (r : Res) (p : Prop) (vs : List Value) (w : World) (hg : gFMul rvs = some (r, p)) (hp : p) (hv : RVs (wmem w) rvs vs) : Calls Try.prog 130 vs.toArray w (fun E w' => ∃ v, E = .returned v ∧ r.ok w w' v ∧ Below w.heap.size w w') := by
  unfold gFMul at hg
  split at hg
  · split at hg
    · rename_i a b _ _
      simp only [Option.some.injEq, Prod.mk.injEq] at hg
      obtain ⟨rfl, rfl⟩ := hg
      obtain ⟨h1, h2, h3, h4, h5⟩ := hp
      rw [rvs3 hv, h2, h3, eMul, hide_eq]
      have ea := elN_eq h4
      have eb := elN_eq h5
      rcases h1 with rfl | rfl
      · have sA : (nP = nP ∨ nP = nQ) ∧ el a = el (elN a) ∧ el b = el (elN b) ∧ elN a < top ∧ elN b < top := by
          rw [ea, eb]; exact ⟨.inl rfl, rfl, rfl, h4, h5⟩
        rw [pS0]
        refine con_end (calls_plain hm Try.func130 (by kernel_rfl) rfl rfl 60 _ _ (fml0 a b) ?_)
        lvs
        all_goals first
          | exact congrArg (fun q => Res.v (el q)) (by rw [ea, eb])
          | (hld
             all_goals (intro _ _; first | exact True.intro | exact sA | exact rfl | omega))
      · have sA : (nQ = nP ∨ nQ = nQ) ∧ el a = el (elN a) ∧ el b = el (elN b) ∧ elN a < top ∧ elN b < top := by
          rw [ea, eb]; exact ⟨.inr rfl, rfl, rfl, h4, h5⟩
        rw [pS1]
        refine con_end (calls_plain hm Try.func130 (by kernel_rfl) rfl rfl 60 _ _ (fml1 a b) ?_)
        lvs
        all_goals first
          | exact congrArg (fun q => Res.v (el q)) (by rw [ea, eb])
          | (hld
             all_goals (intro _ _; first | exact True.intro | exact sA | exact rfl | omega))
    · cases hg
  · cases hg
noncomputable def gFNeg : List RV → Option (Res × Prop)
  | [.v (.int .i64 s), .v x] => match unEl x with
    | some a => some (.v (el (eNeg s a)), (s = 0 ∨ s = 1) ∧ x = el a ∧ a < top)
    | _ => none
  | _ => none
theorem gFNeg_ok (rvs : List RV) (r : Res) (p : Prop) (vs : List Value) (w : World) (hg : gFNeg rvs = some (r, p)) (hp : p) (hv : RVs (wmem w) rvs vs) : Calls Try.prog 123 vs.toArray w (fun E w' => ∃ v, E = .returned v ∧ r.ok w w' v ∧ Below w.heap.size w w') := by
  unfold gFNeg at hg
  split at hg
  · split at hg
    · rename_i a _
      simp only [Option.some.injEq, Prod.mk.injEq] at hg
      obtain ⟨rfl, rfl⟩ := hg
      obtain ⟨h1, h2, h4⟩ := hp
      rw [rvs2 hv, h2, eNeg, hide_eq]
      have ea := elN_eq h4
      rcases h1 with rfl | rfl
      · have sA : (nP = nP ∨ nP = nQ) ∧ el a = el (elN a) ∧ elN a < top := by
          rw [ea]; exact ⟨.inl rfl, rfl, h4⟩
        rw [pS0]
        refine con_end (calls_plain hm Try.func123 (by kernel_rfl) rfl rfl 60 _ _ (fng0 a) ?_)
        lvs
        all_goals first
          | exact congrArg (fun q => Res.v (el q)) (by rw [ea])
          | (hld
             all_goals (intro _ _; first | exact True.intro | exact sA | exact rfl | omega))
      · have sA : (nQ = nP ∨ nQ = nQ) ∧ el a = el (elN a) ∧ elN a < top := by
          rw [ea]; exact ⟨.inr rfl, rfl, h4⟩
        rw [pS1]
        refine con_end (calls_plain hm Try.func123 (by kernel_rfl) rfl rfl 60 _ _ (fng1 a) ?_)
        lvs
        all_goals first
          | exact congrArg (fun q => Res.v (el q)) (by rw [ea])
          | (hld
             all_goals (intro _ _; first | exact True.intro | exact sA | exact rfl | omega))
    · cases hg
  · cases hg
noncomputable def L7 : Con Try.prog := ((L6.add 39 gFAdd gFAdd_ok).add 130 gFMul gFMul_ok).add 123 gFNeg gFNeg_ok
end Go.Proofs.Ytpghmnpbfaichaa

namespace Go.Proofs.Ytpghmnpbfaichaa
open Go.Sx Go.Pl Go.RowKit
set_option linter.unusedVariables false
theorem vn (ad : Addr) (n cap : Nat) (s a : Int) (u : Nat) : (((xgo Try.prog X (bodyOf Try.f122) 14 L7 [] 60 [.ld (.agg [.v (.int .u64 (limb u 0 : Nat)), .v (.int .u64 (limb u 1 : Nat)), .v (.int .u64 (limb u 2 : Nat)), .v (.int .u64 (limb u 3 : Nat))])] (.nil) [.at []] ⟨argsTm 0 [.agg (Array.mk [.int .i64 a]), .int .i64 s, .slice (some ad) n cap], []⟩ [] []).bind (ends Try.prog Try.f122.results.toList)).bind plainE) =
  some [EndP.mk [] [fun _ => (0 : Int) ≤ a ∧ a < (↑n : Int),
    fun _ => true = true, fun M => MCells (fun a => M a) (some (if Int.toNat a * (4 : Nat) = (0 : Nat) then ad else Addr.mk ad.1 (ad.2 + Int.toNat a * (4 : Nat)) none)) [Value.int IntKind.u64 (↑(limb u (0 : Nat)) : Int), Value.int IntKind.u64 (↑(limb u (1 : Nat)) : Int), Value.int IntKind.u64 (↑(limb u (2 : Nat)) : Int), Value.int IntKind.u64 (↑(limb u (3 : Nat)) : Int)],
    fun _ => (s = (0 : Int) ∨ s = (1 : Int)) ∧ el u = el (elN u) ∧ elN u < top,
    fun _ => (0 : Nat) + (4 : Nat) ≤ (4 : Nat)] (Res.v (el (eNeg s (elN u))))]
  := by kernel_rfl

theorem va (ad : Addr) (n cap : Nat) (s a b : Int) (u v : Nat) : (((xgo Try.prog X (bodyOf Try.f126) 19 L7 [] 60 [.ld (.agg [.v (.int .u64 (limb u 0 : Nat)), .v (.int .u64 (limb u 1 : Nat)), .v (.int .u64 (limb u 2 : Nat)), .v (.int .u64 (limb u 3 : Nat))]), .ld (.agg [.v (.int .u64 (limb v 0 : Nat)), .v (.int .u64 (limb v 1 : Nat)), .v (.int .u64 (limb v 2 : Nat)), .v (.int .u64 (limb v 3 : Nat))])] (.nil) [.at []] ⟨argsTm 0 [.agg (Array.mk [.int .i64 a, .int .i64 b]), .int .i64 s, .slice (some ad) n cap], []⟩ [] []).bind (ends Try.prog Try.f126.results.toList)).bind plainE) =
  some [EndP.mk [] [fun _ => (0 : Int) ≤ a ∧ a < (↑n : Int),
    fun _ => true = true, fun M => MCells (fun a => M a) (some (if Int.toNat a * (4 : Nat) = (0 : Nat) then ad else Addr.mk ad.1 (ad.2 + Int.toNat a * (4 : Nat)) none)) [Value.int IntKind.u64 (↑(limb u (0 : Nat)) : Int), Value.int IntKind.u64 (↑(limb u (1 : Nat)) : Int), Value.int IntKind.u64 (↑(limb u (2 : Nat)) : Int), Value.int IntKind.u64 (↑(limb u (3 : Nat)) : Int)],
    fun _ => (0 : Int) ≤ b ∧ b < (↑n : Int),
    fun _ => true = true, fun M => MCells (fun a => M a) (some (if Int.toNat b * (4 : Nat) = (0 : Nat) then ad else Addr.mk ad.1 (ad.2 + Int.toNat b * (4 : Nat)) none)) [Value.int IntKind.u64 (↑(limb v (0 : Nat)) : Int), Value.int IntKind.u64 (↑(limb v (1 : Nat)) : Int), Value.int IntKind.u64 (↑(limb v (2 : Nat)) : Int), Value.int IntKind.u64 (↑(limb v (3 : Nat)) : Int)],
    fun _ => (s = (0 : Int) ∨ s = (1 : Int)) ∧ el u = el (elN u) ∧ el v = el (elN v) ∧ elN u < top ∧ elN v < top,
    fun _ => (0 : Nat) + (4 : Nat) ≤ (4 : Nat)] (Res.v (el (eAdd s (elN u) (elN v))))]
  := by kernel_rfl

theorem vm (ad : Addr) (n cap : Nat) (s a b : Int) (u v : Nat) : (((xgo Try.prog X (bodyOf Try.f129) 19 L7 [] 60 [.ld (.agg [.v (.int .u64 (limb u 0 : Nat)), .v (.int .u64 (limb u 1 : Nat)), .v (.int .u64 (limb u 2 : Nat)), .v (.int .u64 (limb u 3 : Nat))]), .ld (.agg [.v (.int .u64 (limb v 0 : Nat)), .v (.int .u64 (limb v 1 : Nat)), .v (.int .u64 (limb v 2 : Nat)), .v (.int .u64 (limb v 3 : Nat))])] (.nil) [.at []] ⟨argsTm 0 [.agg (Array.mk [.int .i64 a, .int .i64 b]), .int .i64 s, .slice (some ad) n cap], []⟩ [] []).bind (ends Try.prog Try.f129.results.toList)).bind plainE) =
  some [EndP.mk [] [fun _ => (0 : Int) ≤ a ∧ a < (↑n : Int),
    fun _ => true = true, fun M => MCells (fun a => M a) (some (if Int.toNat a * (4 : Nat) = (0 : Nat) then ad else Addr.mk ad.1 (ad.2 + Int.toNat a * (4 : Nat)) none)) [Value.int IntKind.u64 (↑(limb u (0 : Nat)) : Int), Value.int IntKind.u64 (↑(limb u (1 : Nat)) : Int), Value.int IntKind.u64 (↑(limb u (2 : Nat)) : Int), Value.int IntKind.u64 (↑(limb u (3 : Nat)) : Int)],
    fun _ => (0 : Int) ≤ b ∧ b < (↑n : Int),
    fun _ => true = true, fun M => MCells (fun a => M a) (some (if Int.toNat b * (4 : Nat) = (0 : Nat) then ad else Addr.mk ad.1 (ad.2 + Int.toNat b * (4 : Nat)) none)) [Value.int IntKind.u64 (↑(limb v (0 : Nat)) : Int), Value.int IntKind.u64 (↑(limb v (1 : Nat)) : Int), Value.int IntKind.u64 (↑(limb v (2 : Nat)) : Int), Value.int IntKind.u64 (↑(limb v (3 : Nat)) : Int)],
    fun _ => (s = (0 : Int) ∨ s = (1 : Int)) ∧ el u = el (elN u) ∧ el v = el (elN v) ∧ elN u < top ∧ elN v < top,
    fun _ => (0 : Nat) + (4 : Nat) ≤ (4 : Nat)] (Res.v (el (eMul s (elN u) (elN v))))]
  := by kernel_rfl

theorem vs137 (ad : Addr) (n cap : Nat) (s a : Int) (u v : Nat) : (((xgo Try.prog X (bodyOf Try.f137) 16 L7 [] 60 [.ld (.agg [.v (.int .u64 (limb v 0 : Nat)), .v (.int .u64 (limb v 1 : Nat)), .v (.int .u64 (limb v 2 : Nat)), .v (.int .u64 (limb v 3 : Nat))])] (.nil) [.at []] ⟨argsTm 0 [.agg (Array.mk [.int .i64 a, .int .u64 (limb u 0 : Nat), .int .u64 (limb u 1 : Nat), .int .u64 (limb u 2 : Nat), .int .u64 (limb u 3 : Nat)]), .int .i64 s, .slice (some ad) n cap], []⟩ [] []).bind (ends Try.prog Try.f137.results.toList)).bind plainE) =
  some [EndP.mk [] [fun _ => (0 : Int) ≤ a ∧ a < (↑n : Int),
    fun _ => true = true, fun M => MCells (fun a => M a) (some (if Int.toNat a * (4 : Nat) = (0 : Nat) then ad else Addr.mk ad.1 (ad.2 + Int.toNat a * (4 : Nat)) none)) [Value.int IntKind.u64 (↑(limb v (0 : Nat)) : Int), Value.int IntKind.u64 (↑(limb v (1 : Nat)) : Int), Value.int IntKind.u64 (↑(limb v (2 : Nat)) : Int), Value.int IntKind.u64 (↑(limb v (3 : Nat)) : Int)],
    fun _ => (s = (0 : Int) ∨ s = (1 : Int)) ∧ el u = el (elN u) ∧ el v = el (elN v) ∧ elN u < top ∧ elN v < top,
    fun _ => (0 : Nat) + (4 : Nat) ≤ (4 : Nat)] (Res.v (el (eMul s (elN u) (elN v))))]
  := by kernel_rfl

theorem getE_lt {l : List Nat} (h : ∀ x ∈ l, x < top) (j : Nat) : l.getD j 0 < top := by
  rw [List.getD_eq_getElem?_getD]
  cases hj : l[j]? with
  | none => exact top_pos
  | some z => exact h z (List.mem_of_getElem? hj)
noncomputable def gVNeg : List RV → Option (Res × Prop)
  | [.v (.agg ⟨[.int .i64 a]⟩), .v (.int .i64 s), .r n cs] => some (.v (el (eNeg s (getE cs a))), cs = elsC (unEs cs) ∧ (unEs cs).length = n ∧ (∀ x ∈ unEs cs, x < top) ∧ (s = 0 ∨ s = 1) ∧ 0 ≤ a ∧ a < (n : Int))
  | _ => none
theorem gVNeg_ok (rvs : List RV) (r : Res) (p : Prop) (vs : List Value) (w : World) (hg : gVNeg rvs = some (r, p)) (hp : p) (hv : RVs (wmem w) rvs vs) : Calls Try.prog 122 vs.toArray w (fun E w' => ∃ v, E = .returned v ∧ r.ok w w' v ∧ Below w.heap.size w w') := by
  unfold gVNeg at hg
  split at hg
  · rename_i a s n cs
    simp only [Option.some.injEq, Prod.mk.injEq] at hg
    obtain ⟨rfl, rfl⟩ := hg
    obtain ⟨hc, hn, hw, hs, ha⟩ := hp
    match vs, hv with
    | [x, y, z], ⟨h1, h2, ⟨oa, cap, h3, h4⟩, _⟩ =>
      rw [hc] at h4
      obtain ⟨ad, rfl, hx⟩ := els_get h4 a.toNat (by omega)
      have eu := elN_eq (getE_lt hw a.toNat)
      have sA : (s = (0 : Int) ∨ s = (1 : Int)) ∧ el ((unEs cs).getD a.toNat 0) = el (elN ((unEs cs).getD a.toNat 0)) ∧ elN ((unEs cs).getD a.toNat 0) < top := by
        rw [eu]; exact ⟨hs, rfl, getE_lt hw _⟩
      rw [h1, h2, h3, getE, hide_eq]
      refine con_end (calls_plain hm Try.func122 (by kernel_rfl) rfl rfl 60 _ _ (vn ad n cap s a ((unEs cs).getD a.toNat 0)) ?_)
      lvs
      all_goals first
        | exact congrArg (fun q => Res.v (el q)) (by rw [eu])
        | (hld
           all_goals (first | exact hold_cells hx | exact hold_cells hy | (intro _ _; first | exact True.intro | exact ⟨by omega, by omega⟩ | exact sA | exact rfl | omega)))
  · cases hg
noncomputable def gVAdd : List RV → Option (Res × Prop)
  | [.v (.agg ⟨[.int .i64 a, .int .i64 b]⟩), .v (.int .i64 s), .r n cs] => some (.v (el (eAdd s (getE cs a) (getE cs b))), cs = elsC (unEs cs) ∧ (unEs cs).length = n ∧ (∀ x ∈ unEs cs, x < top) ∧ (s = 0 ∨ s = 1) ∧ 0 ≤ a ∧ a < (n : Int) ∧ 0 ≤ b ∧ b < (n : Int))
  | _ => none
theorem gVAdd_ok (rvs : List RV) (r : Res) (p : Prop) (vs : List Value) (w : World) (hg : gVAdd rvs = some (r, p)) (hp : p) (hv : RVs (wmem w) rvs vs) : Calls Try.prog 126 vs.toArray w (fun E w' => ∃ v, E = .returned v ∧ r.ok w w' v ∧ Below w.heap.size w w') := by
  unfold gVAdd at hg
  split at hg
  · rename_i a b s n cs
    simp only [Option.some.injEq, Prod.mk.injEq] at hg
    obtain ⟨rfl, rfl⟩ := hg
    obtain ⟨hc, hn, hw, hs, ha, ha2, hb, hb2⟩ := hp
    match vs, hv with
    | [x, y, z], ⟨h1, h2, ⟨oa, cap, h3, h4⟩, _⟩ =>
      rw [hc] at h4
      obtain ⟨ad, e1, hx⟩ := els_get h4 a.toNat (by omega)
      obtain ⟨ad', e2, hy⟩ := els_get h4 b.toNat (by omega)
      subst e1
      cases e2
      have eu := elN_eq (getE_lt hw a.toNat)
      have ev := elN_eq (getE_lt hw b.toNat)
      have sA : (s = (0 : Int) ∨ s = (1 : Int)) ∧ el ((unEs cs).getD a.toNat 0) = el (elN ((unEs cs).getD a.toNat 0)) ∧ el ((unEs cs).getD b.toNat 0) = el (elN ((unEs cs).getD b.toNat 0)) ∧ elN ((unEs cs).getD a.toNat 0) < top ∧ elN ((unEs cs).getD b.toNat 0) < top := by
        rw [eu, ev]; exact ⟨hs, rfl, rfl, getE_lt hw _, getE_lt hw _⟩
      rw [h1, h2, h3, getE, getE, hide_eq, hide_eq]
      refine con_end (calls_plain hm Try.func126 (by kernel_rfl) rfl rfl 60 _ _ (va ad n cap s a b ((unEs cs).getD a.toNat 0) ((unEs cs).getD b.toNat 0)) ?_)
      lvs
      all_goals first
        | exact congrArg (fun q => Res.v (el q)) (by rw [eu, ev])
        | (hld
           all_goals (first | exact hold_cells hx | exact hold_cells hy | (intro _ _; first | exact True.intro | exact ⟨by omega, by omega⟩ | exact sA | exact rfl | omega)))
  · cases hg
noncomputable def gVMul : List RV → Option (Res × Prop)
  | [.v (.agg ⟨[.int .i64 a, .int .i64 b]⟩), .v (.int .i64 s), .r n cs] => some (.v (el (eMul s (getE cs a) (getE cs b))), cs = elsC (unEs cs) ∧ (unEs cs).length = n ∧ (∀ x ∈ unEs cs, x < top) ∧ (s = 0 ∨ s = 1) ∧ 0 ≤ a ∧ a < (n : Int) ∧ 0 ≤ b ∧ b < (n : Int))
  | _ => none
theorem gVMul_ok (rvs : List RV) (r : Res) (p : Prop) (vs : List Value) (w : World) (hg : gVMul rvs = some (r, p)) (hp : p) (hv : RVs (wmem w) rvs vs) : Calls Try.prog 129 vs.toArray w (fun E w' => ∃ v, E = .returned v ∧ r.ok w w' v ∧ Below w.heap.size w w') := by
  unfold gVMul at hg
  split at hg
  · rename_i a b s n cs
    simp only [Option.some.injEq, Prod.mk.injEq] at hg
    obtain ⟨rfl, rfl⟩ := hg
    obtain ⟨hc, hn, hw, hs, ha, ha2, hb, hb2⟩ := hp
    match vs, hv with
    | [x, y, z], ⟨h1, h2, ⟨oa, cap, h3, h4⟩, _⟩ =>
      rw [hc] at h4
      obtain ⟨ad, e1, hx⟩ := els_get h4 a.toNat (by omega)
      obtain ⟨ad', e2, hy⟩ := els_get h4 b.toNat (by omega)
      subst e1
      cases e2
      have eu := elN_eq (getE_lt hw a.toNat)
      have ev := elN_eq (getE_lt hw b.toNat)
      have sA : (s = (0 : Int) ∨ s = (1 : Int)) ∧ el ((unEs cs).getD a.toNat 0) = el (elN ((unEs cs).getD a.toNat 0)) ∧ el ((unEs cs).getD b.toNat 0) = el (elN ((unEs cs).getD b.toNat 0)) ∧ elN ((unEs cs).getD a.toNat 0) < top ∧ elN ((unEs cs).getD b.toNat 0) < top := by
        rw [eu, ev]; exact ⟨hs, rfl, rfl, getE_lt hw _, getE_lt hw _⟩
      rw [h1, h2, h3, getE, getE, hide_eq, hide_eq]
      refine con_end (calls_plain hm Try.func129 (by kernel_rfl) rfl rfl 60 _ _ (vm ad n cap s a b ((unEs cs).getD a.toNat 0) ((unEs cs).getD b.toNat 0)) ?_)
      lvs
      all_goals first
        | exact congrArg (fun q => Res.v (el q)) (by rw [eu, ev])
        | (hld
           all_goals (first | exact hold_cells hx | exact hold_cells hy | (intro _ _; first | exact True.intro | exact ⟨by omega, by omega⟩ | exact sA | exact rfl | omega)))
  · cases hg
noncomputable def gVSc : List RV → Option (Res × Prop)
  | [.v (.agg ⟨[.int .i64 a, k0, k1, k2, k3]⟩), .v (.int .i64 s), .r n cs] => match unEl (.agg ⟨[k0, k1, k2, k3]⟩) with
    | some u => some (.v (el (eMul s u (getE cs a))), cs = elsC (unEs cs) ∧ (unEs cs).length = n ∧ (∀ x ∈ unEs cs, x < top) ∧ (s = 0 ∨ s = 1) ∧ 0 ≤ a ∧ a < (n : Int) ∧ (.agg ⟨[k0, k1, k2, k3]⟩ = el u) ∧ u < top)
    | _ => none
  | _ => none
theorem gVSc_ok (rvs : List RV) (r : Res) (p : Prop) (vs : List Value) (w : World) (hg : gVSc rvs = some (r, p)) (hp : p) (hv : RVs (wmem w) rvs vs) : Calls Try.prog 137 vs.toArray w (fun E w' => ∃ v, E = .returned v ∧ r.ok w w' v ∧ Below w.heap.size w w') := by
  unfold gVSc at hg
  split at hg
  · rename_i a k0 k1 k2 k3 s n cs
    split at hg
    · rename_i u hu
      simp only [Option.some.injEq, Prod.mk.injEq] at hg
      obtain ⟨rfl, rfl⟩ := hg
      obtain ⟨hc, hn, hw, hs, ha, ha2, hku, hut⟩ := hp
      match vs, hv with
      | [x, y, z], ⟨h1, h2, ⟨oa, cap, h3, h4⟩, _⟩ =>
        rw [hc] at h4
        obtain ⟨ad, rfl, hx⟩ := els_get h4 a.toNat (by omega)
        have eu := elN_eq hut
        have ev := elN_eq (getE_lt hw a.toNat)
        have sA : (s = (0 : Int) ∨ s = (1 : Int)) ∧ el u = el (elN u) ∧ el ((unEs cs).getD a.toNat 0) = el (elN ((unEs cs).getD a.toNat 0)) ∧ elN u < top ∧ elN ((unEs cs).getD a.toNat 0) < top := by
          rw [eu, ev]; exact ⟨hs, rfl, rfl, hut, getE_lt hw _⟩
        simp only [el, Value.agg.injEq, Array.mk.injEq, List.cons.injEq, and_true] at hku
        rw [h1, h2, h3, getE, hide_eq, hku.1, hku.2.1, hku.2.2.1, hku.2.2.2]
        refine con_end (calls_plain hm Try.func137 (by kernel_rfl) rfl rfl 60 _ _ (vs137 ad n cap s a u ((unEs cs).getD a.toNat 0)) ?_)
        lvs
        all_goals first
          | exact congrArg (fun q => Res.v (el q)) (by rw [eu, ev])
          | (hld
             all_goals (first | exact hold_cells hx | exact hold_cells hy | (intro _ _; first | exact True.intro | exact ⟨by omega, by omega⟩ | exact sA | exact rfl | omega)))
    · cases hg
  · cases hg
noncomputable def L8 : Con Try.prog := (((L7.add 122 gVNeg gVNeg_ok).add 126 gVAdd gVAdd_ok).add 129 gVMul gVMul_ok).add 137 gVSc gVSc_ok
end Go.Proofs.Ytpghmnpbfaichaa
