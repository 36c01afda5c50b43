/- The document's side: what a node uses; is it a query. -/
import Derived.Test.YtpghmnpbfaichaaE11
namespace Go.Pl
open Go.Sx
def usO (op a b : Int) : List Int := if op = 5 ∨ op = 8 then [a] else if op = 6 ∨ op = 7 then [a, b] else []
theorem usesN_eq (x : Nd) : usesN x = usO x.op x.a x.b := rfl
theorem us_n {op : Int} (a b : Int) (h : op = 5 ∨ op = 8) : usO op a b = [a] := by rw [usO, if_pos h]
theorem us_a {op : Int} (a b : Int) (h : op = 6 ∨ op = 7) : usO op a b = [a, b] := by rw [usO, if_neg (by omega), if_pos h]
theorem us_x {op : Int} (a b : Int) (h : ¬ (5 ≤ op ∧ op ≤ 8)) : usO op a b = [] := by rw [usO, if_neg (by omega), if_neg (by omega)]
noncomputable def usL (op a b : Int) : List Value := intsC (usO op a b)
noncomputable def usN (op a b : Int) : Nat := hide (usO op a b).length
noncomputable def qyB (op : Int) : Bool := hidQ (decide (2 ≤ op ∧ op ≤ 4))
theorem qyB_eq (op : Int) : qyB op = decide (2 ≤ op ∧ op ≤ 4) := hidQ_eq _
end Go.Pl
namespace Go.Proofs.Ytpghmnpbfaichaa
open Go.Sx Go.Pl Go.RowKit
theorem run78n (op a b : Int) (l0 l1 l2 l3 : Value) : (((xgo Try.prog X (bodyOf Try.f78) 19 K11 [] 60 [.t, .t] (.nil) [.at []] ⟨argsTm 0 [.agg (Array.mk [.int .i64 op, .int .i64 a, .int .i64 b, l0, l1, l2, l3])], []⟩ [] []).bind (ends Try.prog Try.f78.results.toList)).bind plainE) =
  some [EndP.mk [] [fun _ => (op == (5 : Int)) = true,
    fun _ => (op == (5 : Int)) = true,
    fun _ => [SV.v (Value.int IntKind.i64 a)] = [SV.v (Value.int IntKind.i64 a)]] (Res.r (3 : Nat) (1 : Nat) (1 : Nat) (unv [SV.v (Value.int IntKind.i64 a)]))]
  := by kernel_rfl

theorem run78s (op a b : Int) (l0 l1 l2 l3 : Value) : (((xgo Try.prog X (bodyOf Try.f78) 19 K11 [] 60 [.f, .t] (.nil) [.at []] ⟨argsTm 0 [.agg (Array.mk [.int .i64 op, .int .i64 a, .int .i64 b, l0, l1, l2, l3])], []⟩ [] []).bind (ends Try.prog Try.f78.results.toList)).bind plainE) =
  some [EndP.mk [] [fun _ => (op == (5 : Int)) = false,
    fun _ => (op == (8 : Int)) = true,
    fun _ => [SV.v (Value.int IntKind.i64 a)] = [SV.v (Value.int IntKind.i64 a)]] (Res.r (3 : Nat) (1 : Nat) (1 : Nat) (unv [SV.v (Value.int IntKind.i64 a)]))]
  := by kernel_rfl

theorem run78a (op a b : Int) (l0 l1 l2 l3 : Value) : (((xgo Try.prog X (bodyOf Try.f78) 19 K11 [] 60 [.f, .f, .t, .t] (.nil) [.at []] ⟨argsTm 0 [.agg (Array.mk [.int .i64 op, .int .i64 a, .int .i64 b, l0, l1, l2, l3])], []⟩ [] []).bind (ends Try.prog Try.f78.results.toList)).bind plainE) =
  some [EndP.mk [] [fun _ => (op == (5 : Int)) = false,
    fun _ => (op == (8 : Int)) = false,
    fun _ => (op == (6 : Int)) = true,
    fun _ => (op == (6 : Int)) = true,
    fun _ => [SV.v (Value.int IntKind.i64 a), SV.v (Value.int IntKind.i64 b)] = [SV.v (Value.int IntKind.i64 a), SV.v (Value.int IntKind.i64 b)]] (Res.r (3 : Nat) (1 : Nat) (2 : Nat) (unv [SV.v (Value.int IntKind.i64 a), SV.v (Value.int IntKind.i64 b)]))]
  := by kernel_rfl

theorem run78m (op a b : Int) (l0 l1 l2 l3 : Value) : (((xgo Try.prog X (bodyOf Try.f78) 19 K11 [] 60 [.f, .f, .f, .t] (.nil) [.at []] ⟨argsTm 0 [.agg (Array.mk [.int .i64 op, .int .i64 a, .int .i64 b, l0, l1, l2, l3])], []⟩ [] []).bind (ends Try.prog Try.f78.results.toList)).bind plainE) =
  some [EndP.mk [] [fun _ => (op == (5 : Int)) = false,
    fun _ => (op == (8 : Int)) = false,
    fun _ => (op == (6 : Int)) = false,
    fun _ => (op == (7 : Int)) = true,
    fun _ => [SV.v (Value.int IntKind.i64 a), SV.v (Value.int IntKind.i64 b)] = [SV.v (Value.int IntKind.i64 a), SV.v (Value.int IntKind.i64 b)]] (Res.r (3 : Nat) (1 : Nat) (2 : Nat) (unv [SV.v (Value.int IntKind.i64 a), SV.v (Value.int IntKind.i64 b)]))]
  := by kernel_rfl

theorem run78x (op a b : Int) (l0 l1 l2 l3 : Value) : (((xgo Try.prog X (bodyOf Try.f78) 19 K11 [] 60 [.f, .f, .f, .f] (.nil) [.at []] ⟨argsTm 0 [.agg (Array.mk [.int .i64 op, .int .i64 a, .int .i64 b, l0, l1, l2, l3])], []⟩ [] []).bind (ends Try.prog Try.f78.results.toList)).bind plainE) =
  some [EndP.mk [] [fun _ => (op == (5 : Int)) = false,
    fun _ => (op == (8 : Int)) = false,
    fun _ => (op == (6 : Int)) = false,
    fun _ => (op == (7 : Int)) = false] (Res.v (Value.slice none (0 : Nat) (0 : Nat)))]
  := by kernel_rfl

theorem run77a (op a b : Int) (l0 l1 l2 l3 : Value) : (((xgo Try.prog X (bodyOf Try.f77) 11 K11 [] 60 [.f] (.nil) [.at []] ⟨argsTm 0 [.agg (Array.mk [.int .i64 op, .int .i64 a, .int .i64 b, l0, l1, l2, l3])], []⟩ [] []).bind (ends Try.prog Try.f77.results.toList)).bind plainE) =
  some [EndP.mk [] [fun _ => decide ((2 : Int) ≤ op) = false] (Res.v (Value.bool false))]
  := by kernel_rfl

theorem run77b (op a b : Int) (l0 l1 l2 l3 : Value) : (((xgo Try.prog X (bodyOf Try.f77) 11 K11 [] 60 [.t] (.nil) [.at []] ⟨argsTm 0 [.agg (Array.mk [.int .i64 op, .int .i64 a, .int .i64 b, l0, l1, l2, l3])], []⟩ [] []).bind (ends Try.prog Try.f77.results.toList)).bind plainE) =
  some [EndP.mk [] [fun _ => decide ((2 : Int) ≤ op) = true] (Res.v (Value.bool (decide (op ≤ (4 : Int)))))]
  := by kernel_rfl

theorem uses_ok (op a b : Int) (l0 l1 l2 l3 : Value) (w : World) : Calls Try.prog 78 [.agg (Array.mk [.int .i64 op, .int .i64 a, .int .i64 b, l0, l1, l2, l3])].toArray w (fun E w' => ∃ v, E = .returned v ∧ Res.ok w w' (.r 3 1 (usO op a b).length (intsC (usO op a b))) v ∧ Below w.heap.size w w') := by
  by_cases hc : op = 5
  · rw [us_n a b (.inl hc)]
    refine con_end (calls_plain hm Try.func78 (by kernel_rfl) rfl rfl 60 _ _ (run78n op a b l0 l1 l2 l3) ⟨fun _ => ⟨?_, rfl⟩, trivial⟩)
    simp only [hold_cons, hold_nil, and_true]
    exact ⟨fun _ _ => beq_iff_eq.2 hc, fun _ _ => beq_iff_eq.2 hc, fun _ _ => trivial⟩
  by_cases hc : op = 8
  · rw [us_n a b (.inr hc)]
    refine con_end (calls_plain hm Try.func78 (by kernel_rfl) rfl rfl 60 _ _ (run78s op a b l0 l1 l2 l3) ⟨fun _ => ⟨?_, rfl⟩, trivial⟩)
    simp only [hold_cons, hold_nil, and_true]
    exact ⟨fun _ _ => beq_eq_false_iff_ne.2 (by omega), fun _ _ => beq_iff_eq.2 hc, fun _ _ => trivial⟩
  by_cases hc : op = 6
  · rw [us_a a b (.inl hc)]
    refine con_end (calls_plain hm Try.func78 (by kernel_rfl) rfl rfl 60 _ _ (run78a op a b l0 l1 l2 l3) ⟨fun _ => ⟨?_, rfl⟩, trivial⟩)
    simp only [hold_cons, hold_nil, and_true]
    exact ⟨fun _ _ => beq_eq_false_iff_ne.2 (by omega), fun _ _ => beq_eq_false_iff_ne.2 (by omega), fun _ _ => beq_iff_eq.2 hc, fun _ _ => beq_iff_eq.2 hc, fun _ _ => trivial⟩
  by_cases hc : op = 7
  · rw [us_a a b (.inr hc)]
    refine con_end (calls_plain hm Try.func78 (by kernel_rfl) rfl rfl 60 _ _ (run78m op a b l0 l1 l2 l3) ⟨fun _ => ⟨?_, rfl⟩, trivial⟩)
    simp only [hold_cons, hold_nil, and_true]
    exact ⟨fun _ _ => beq_eq_false_iff_ne.2 (by omega), fun _ _ => beq_eq_false_iff_ne.2 (by omega), fun _ _ => beq_eq_false_iff_ne.2 (by omega), fun _ _ => beq_iff_eq.2 hc, fun _ _ => trivial⟩
  rw [us_x a b (by omega)]
  refine con_end2 (calls_plain (R := fun q => ∀ w w' v, q.ok w w' v → (Res.r 3 1 0 []).ok w w' v) hm Try.func78 (by kernel_rfl) rfl rfl 60 _ _ (run78x op a b l0 l1 l2 l3) ⟨fun _ => ⟨?_, fun w1 w2 v hv => nilRow1 w1 w2 3 1 v hv⟩, trivial⟩)
  simp only [hold_cons, hold_nil, and_true]
  exact ⟨fun _ _ => beq_eq_false_iff_ne.2 (by omega), fun _ _ => beq_eq_false_iff_ne.2 (by omega), fun _ _ => beq_eq_false_iff_ne.2 (by omega), fun _ _ => beq_eq_false_iff_ne.2 (by omega)⟩
theorem query_ok (op a b : Int) (l0 l1 l2 l3 : Value) (w : World) : Calls Try.prog 77 [.agg (Array.mk [.int .i64 op, .int .i64 a, .int .i64 b, l0, l1, l2, l3])].toArray w (fun E w' => ∃ v, E = .returned v ∧ Res.ok w w' (.v (.bool (decide (2 ≤ op ∧ op ≤ 4)))) v ∧ Below w.heap.size w w') := by
  by_cases h : 2 ≤ op
  · rw [show decide (2 ≤ op ∧ op ≤ 4) = decide (op ≤ 4) by rw [decide_eq_decide]; omega]
    refine con_end (calls_plain hm Try.func77 (by kernel_rfl) rfl rfl 60 _ _ (run77b op a b l0 l1 l2 l3) ⟨fun _ => ⟨?_, rfl⟩, trivial⟩)
    simp only [hold_cons, hold_nil, and_true]
    exact fun _ _ => decide_eq_true h
  · rw [decide_eq_false (by omega)]
    refine con_end (calls_plain hm Try.func77 (by kernel_rfl) rfl rfl 60 _ _ (run77a op a b l0 l1 l2 l3) ⟨fun _ => ⟨?_, rfl⟩, trivial⟩)
    simp only [hold_cons, hold_nil, and_true]
    exact fun _ _ => decide_eq_false h
noncomputable def gUses : List RV → Option (Res × Prop)
  | [.v (.agg ⟨[.int .i64 op, .int .i64 a, .int .i64 b, _, _, _, _]⟩)] => some (.r 3 1 (usN op a b) (usL op a b), True)
  | _ => none
theorem gUses_ok (rvs : List RV) (r : Res) (p : Prop) (vs : List Value) (w : World) (hg : gUses rvs = some (r, p)) (_hp : p) (hv : RVs (wmem w) rvs vs) : Calls Try.prog 78 vs.toArray w (fun E w' => ∃ v, E = .returned v ∧ r.ok w w' v ∧ Below w.heap.size w w') := by
  unfold gUses at hg
  split at hg
  · simp only [Option.some.injEq, Prod.mk.injEq] at hg
    obtain ⟨rfl, rfl⟩ := hg
    match vs, hv with
    | [x], ⟨h1, _⟩ =>
      rw [h1, usN, hide_eq, usL]
      exact uses_ok _ _ _ _ _ _ _ w
  · cases hg
noncomputable def gQuery : List RV → Option (Res × Prop)
  | [.v (.agg ⟨[.int .i64 op, .int .i64 _, .int .i64 _, _, _, _, _]⟩)] => some (.v (.bool (qyB op)), True)
  | _ => none
theorem gQuery_ok (rvs : List RV) (r : Res) (p : Prop) (vs : List Value) (w : World) (hg : gQuery rvs = some (r, p)) (_hp : p) (hv : RVs (wmem w) rvs vs) : Calls Try.prog 77 vs.toArray w (fun E w' => ∃ v, E = .returned v ∧ r.ok w w' v ∧ Below w.heap.size w w') := by
  unfold gQuery at hg
  split at hg
  · simp only [Option.some.injEq, Prod.mk.injEq] at hg
    obtain ⟨rfl, rfl⟩ := hg
    match vs, hv with
    | [x], ⟨h1, _⟩ =>
      rw [h1, qyB_eq]
      exact query_ok _ _ _ _ _ _ _ w
  · cases hg
noncomputable def K12 : Con Try.prog := (K11.add 78 gUses gUses_ok).add 77 gQuery gQuery_ok
end Go.Proofs.Ytpghmnpbfaichaa

namespace Go.Pl
open Go.Sx
theorem nd_op {M : Mem} {ad : Addr} {x : Nd} (h : MCells M (some ad) (ndC x)) : MCells M (some ad) [.int .i64 x.op] := by
  have := MCells.at h 0 [.int .i64 x.op] (fun j v hj => by
    match j, hj with
    | 0, hj => exact hj)
  exact this
theorem nd_a {M : Mem} {ad : Addr} {x : Nd} (h : MCells M (some ad) (ndC x)) : MCells M (some (ad.add 1)) [.int .i64 x.a] :=
  MCells.at h 1 [.int .i64 x.a] (fun j v hj => by
    match j, hj with
    | 0, hj => exact hj)
theorem nd_b {M : Mem} {ad : Addr} {x : Nd} (h : MCells M (some ad) (ndC x)) : MCells M (some (ad.add 2)) [.int .i64 x.b] :=
  MCells.at h 2 [.int .i64 x.b] (fun j v hj => by
    match j, hj with
    | 0, hj => exact hj)
end Go.Pl
namespace Go.Proofs.Ytpghmnpbfaichaa
open Go.Sx Go.Pl Go.RowKit
set_option hygiene false in
macro "side1" : tactic => `(tactic| first | exact trivial | assumption | exact decide_eq_true (by omega) | exact decide_eq_false (by omega) | omega | exact ⟨by omega, by omega⟩)
set_option hygiene false in
macro "sides" : tactic => `(tactic| (simp only [hold_cons, hold_nil, and_true]; repeat' apply And.intro
                                     all_goals first | exact hold_cells hx | exact hold_cells hx0 | (intro _ _; side1)))
theorem od1 (ad : Addr) (n cap k M : Nat) (op a b z0 z1 z2 z3 : Int) : (((xgo Try.prog X (bodyOf Try.f68) 50 K12 [([0,1,1,1,0,0,1,0,0,1,0,1],3)] 90 [.t, .ld (.v (.int .i64 op)), .t, .t] ((.nil)) [.at [0,0,1,0,1], .rnd [0,0,1,0,1] (M + 1), .blk 0, .at [1,1]] ⟨[(3, .v (.int .i64 (k : Int))), (2, .v (.bool false)), (0, .v (.slice (some ad) n cap))], []⟩ [] []).bind (ends Try.prog Try.f68.results.toList)).bind plainE) =
  some [EndP.mk [] [fun _ => decide ((↑k : Int) < (↑n : Int)) = true,
    fun _ => (0 : Int) ≤ (↑k : Int) ∧ (↑k : Int) < (↑n : Int),
    fun _ => true = true,
    fun _ => true = true, fun M => MCells (fun a => M a) (some (if (0 : Nat) = (0 : Nat) then if Int.toNat (↑k : Int) * (7 : Nat) = (0 : Nat) then ad else Addr.mk ad.1 (ad.2 + Int.toNat (↑k : Int) * (7 : Nat)) none else Addr.mk (if Int.toNat (↑k : Int) * (7 : Nat) = (0 : Nat) then ad else Addr.mk ad.1 (ad.2 + Int.toNat (↑k : Int) * (7 : Nat)) none).1 ((if Int.toNat (↑k : Int) * (7 : Nat) = (0 : Nat) then ad else Addr.mk ad.1 (ad.2 + Int.toNat (↑k : Int) * (7 : Nat)) none).2 + (0 : Nat)) none)) [Value.int IntKind.i64 op],
    fun _ => decide (op < (1 : Int)) = true,
    fun _ => true = true] (Res.v (Value.bool false))]
  := by kernel_rfl

theorem od2 (ad : Addr) (n cap k M : Nat) (op a b z0 z1 z2 z3 : Int) : (((xgo Try.prog X (bodyOf Try.f68) 50 K12 [([0,1,1,1,0,0,1,0,0,1,0,1],3)] 90 [.t, .ld (.v (.int .i64 op)), .f, .ld (.v (.int .i64 op)), .t] ((.nil)) [.at [0,0,1,0,1], .rnd [0,0,1,0,1] (M + 1), .blk 0, .at [1,1]] ⟨[(3, .v (.int .i64 (k : Int))), (2, .v (.bool false)), (0, .v (.slice (some ad) n cap))], []⟩ [] []).bind (ends Try.prog Try.f68.results.toList)).bind plainE) =
  some [EndP.mk [] [fun _ => decide ((↑k : Int) < (↑n : Int)) = true,
    fun _ => (0 : Int) ≤ (↑k : Int) ∧ (↑k : Int) < (↑n : Int),
    fun _ => true = true,
    fun _ => true = true, fun M => MCells (fun a => M a) (some (if (0 : Nat) = (0 : Nat) then if Int.toNat (↑k : Int) * (7 : Nat) = (0 : Nat) then ad else Addr.mk ad.1 (ad.2 + Int.toNat (↑k : Int) * (7 : Nat)) none else Addr.mk (if Int.toNat (↑k : Int) * (7 : Nat) = (0 : Nat) then ad else Addr.mk ad.1 (ad.2 + Int.toNat (↑k : Int) * (7 : Nat)) none).1 ((if Int.toNat (↑k : Int) * (7 : Nat) = (0 : Nat) then ad else Addr.mk ad.1 (ad.2 + Int.toNat (↑k : Int) * (7 : Nat)) none).2 + (0 : Nat)) none)) [Value.int IntKind.i64 op],
    fun _ => decide (op < (1 : Int)) = false,
    fun _ => (0 : Int) ≤ (↑k : Int) ∧ (↑k : Int) < (↑n : Int),
    fun _ => true = true,
    fun _ => true = true, fun M => MCells (fun a => M a) (some (if (0 : Nat) = (0 : Nat) then if Int.toNat (↑k : Int) * (7 : Nat) = (0 : Nat) then ad else Addr.mk ad.1 (ad.2 + Int.toNat (↑k : Int) * (7 : Nat)) none else Addr.mk (if Int.toNat (↑k : Int) * (7 : Nat) = (0 : Nat) then ad else Addr.mk ad.1 (ad.2 + Int.toNat (↑k : Int) * (7 : Nat)) none).1 ((if Int.toNat (↑k : Int) * (7 : Nat) = (0 : Nat) then ad else Addr.mk ad.1 (ad.2 + Int.toNat (↑k : Int) * (7 : Nat)) none).2 + (0 : Nat)) none)) [Value.int IntKind.i64 op],
    fun _ => decide ((8 : Int) < op) = true] (Res.v (Value.bool false))]
  := by kernel_rfl

theorem odx (ad : Addr) (n cap k M : Nat) (op a b z0 z1 z2 z3 : Int) (kt : List It) : ((xgo Try.prog X (bodyOf Try.f68) 50 K12 [([0,1,1,1,0,0,1,0,0,1,0,1],3)] 90 [.t, .ld (.v (.int .i64 op)), .f, .ld (.v (.int .i64 op)), .f, .ld (.agg [.v (.int .i64 op), .v (.int .i64 a), .v (.int .i64 b), .v (.int .u64 z0), .v (.int .u64 z1), .v (.int .u64 z2), .v (.int .u64 z3)]), .f] ((.nil)) (.at [0,0,1,0,1] :: .rnd [0,0,1,0,1] (M + 1) :: kt) ⟨[(3, .v (.int .i64 (k : Int))), (2, .v (.bool false)), (0, .v (.slice (some ad) n cap))], []⟩ [] []).map (trims [3, 2, 0])) =
  some [Leaf2.mk [] [fun _ => decide ((↑k : Int) < (↑n : Int)) = true,
    fun _ => (0 : Int) ≤ (↑k : Int) ∧ (↑k : Int) < (↑n : Int),
    fun _ => true = true,
    fun _ => true = true, fun M => MCells (fun a => M a) (some (if (0 : Nat) = (0 : Nat) then if Int.toNat (↑k : Int) * (7 : Nat) = (0 : Nat) then ad else Addr.mk ad.1 (ad.2 + Int.toNat (↑k : Int) * (7 : Nat)) none else Addr.mk (if Int.toNat (↑k : Int) * (7 : Nat) = (0 : Nat) then ad else Addr.mk ad.1 (ad.2 + Int.toNat (↑k : Int) * (7 : Nat)) none).1 ((if Int.toNat (↑k : Int) * (7 : Nat) = (0 : Nat) then ad else Addr.mk ad.1 (ad.2 + Int.toNat (↑k : Int) * (7 : Nat)) none).2 + (0 : Nat)) none)) [Value.int IntKind.i64 op],
    fun _ => decide (op < (1 : Int)) = false,
    fun _ => (0 : Int) ≤ (↑k : Int) ∧ (↑k : Int) < (↑n : Int),
    fun _ => true = true,
    fun _ => true = true, fun M => MCells (fun a => M a) (some (if (0 : Nat) = (0 : Nat) then if Int.toNat (↑k : Int) * (7 : Nat) = (0 : Nat) then ad else Addr.mk ad.1 (ad.2 + Int.toNat (↑k : Int) * (7 : Nat)) none else Addr.mk (if Int.toNat (↑k : Int) * (7 : Nat) = (0 : Nat) then ad else Addr.mk ad.1 (ad.2 + Int.toNat (↑k : Int) * (7 : Nat)) none).1 ((if Int.toNat (↑k : Int) * (7 : Nat) = (0 : Nat) then ad else Addr.mk ad.1 (ad.2 + Int.toNat (↑k : Int) * (7 : Nat)) none).2 + (0 : Nat)) none)) [Value.int IntKind.i64 op],
    fun _ => decide ((8 : Int) < op) = false,
    fun _ => (0 : Int) ≤ (↑k : Int) ∧ (↑k : Int) < (↑n : Int),
    fun _ => true = true, fun M => MCells (fun a => M a) (some (if Int.toNat (↑k : Int) * (7 : Nat) = (0 : Nat) then ad else Addr.mk ad.1 (ad.2 + Int.toNat (↑k : Int) * (7 : Nat)) none)) [Value.int IntKind.i64 op, Value.int IntKind.i64 a, Value.int IntKind.i64 b, Value.int IntKind.u64 z0, Value.int IntKind.u64 z1, Value.int IntKind.u64 z2, Value.int IntKind.u64 z3],
    fun _ => True,
    fun _ => decide ((0 : Int) < (↑(usN op a b) : Int)) = false] (It.rnd [(0 : Nat), (0 : Nat), (1 : Nat), (0 : Nat), (1 : Nat)] (M + (1 : Nat)) :: kt) (St.mk [((3 : Nat), SV.v (Value.int IntKind.i64 (IntKind.wrap IntKind.i64 ((↑k : Int) + (1 : Int))))), ((2 : Nat), SV.v (Value.bool false)), ((0 : Nat), SV.v (Value.slice (some ad) n cap))] [HO.row (3 : Nat) (1 : Nat) (usN op a b) (mapv (usL op a b))])]
  := by kernel_rfl

theorem odn (ad : Addr) (n cap k M : Nat) (op a b z0 z1 z2 z3 : Int) (kt : List It) : ((xgo Try.prog X (bodyOf Try.f68) 50 K12 [([0,1,1,1,0,0,1,0,0,1,0,1],3)] 90 [.t, .ld (.v (.int .i64 op)), .f, .ld (.v (.int .i64 op)), .f, .ld (.agg [.v (.int .i64 op), .v (.int .i64 a), .v (.int .i64 b), .v (.int .u64 z0), .v (.int .u64 z1), .v (.int .u64 z2), .v (.int .u64 z3)]), .t, .lo 0 (.v (.int .i64 a)), .f, .lo 0 (.v (.int .i64 a)), .f, .f] ((.nil)) (.at [0,0,1,0,1] :: .rnd [0,0,1,0,1] (M + 1) :: kt) ⟨[(3, .v (.int .i64 (k : Int))), (2, .v (.bool false)), (0, .v (.slice (some ad) n cap))], []⟩ [] []).map (trims [3, 2, 0])) =
  some [Leaf2.mk [] [fun _ => decide ((↑k : Int) < (↑n : Int)) = true,
    fun _ => (0 : Int) ≤ (↑k : Int) ∧ (↑k : Int) < (↑n : Int),
    fun _ => true = true,
    fun _ => true = true, fun M => MCells (fun a => M a) (some (if (0 : Nat) = (0 : Nat) then if Int.toNat (↑k : Int) * (7 : Nat) = (0 : Nat) then ad else Addr.mk ad.1 (ad.2 + Int.toNat (↑k : Int) * (7 : Nat)) none else Addr.mk (if Int.toNat (↑k : Int) * (7 : Nat) = (0 : Nat) then ad else Addr.mk ad.1 (ad.2 + Int.toNat (↑k : Int) * (7 : Nat)) none).1 ((if Int.toNat (↑k : Int) * (7 : Nat) = (0 : Nat) then ad else Addr.mk ad.1 (ad.2 + Int.toNat (↑k : Int) * (7 : Nat)) none).2 + (0 : Nat)) none)) [Value.int IntKind.i64 op],
    fun _ => decide (op < (1 : Int)) = false,
    fun _ => (0 : Int) ≤ (↑k : Int) ∧ (↑k : Int) < (↑n : Int),
    fun _ => true = true,
    fun _ => true = true, fun M => MCells (fun a => M a) (some (if (0 : Nat) = (0 : Nat) then if Int.toNat (↑k : Int) * (7 : Nat) = (0 : Nat) then ad else Addr.mk ad.1 (ad.2 + Int.toNat (↑k : Int) * (7 : Nat)) none else Addr.mk (if Int.toNat (↑k : Int) * (7 : Nat) = (0 : Nat) then ad else Addr.mk ad.1 (ad.2 + Int.toNat (↑k : Int) * (7 : Nat)) none).1 ((if Int.toNat (↑k : Int) * (7 : Nat) = (0 : Nat) then ad else Addr.mk ad.1 (ad.2 + Int.toNat (↑k : Int) * (7 : Nat)) none).2 + (0 : Nat)) none)) [Value.int IntKind.i64 op],
    fun _ => decide ((8 : Int) < op) = false,
    fun _ => (0 : Int) ≤ (↑k : Int) ∧ (↑k : Int) < (↑n : Int),
    fun _ => true = true, fun M => MCells (fun a => M a) (some (if Int.toNat (↑k : Int) * (7 : Nat) = (0 : Nat) then ad else Addr.mk ad.1 (ad.2 + Int.toNat (↑k : Int) * (7 : Nat)) none)) [Value.int IntKind.i64 op, Value.int IntKind.i64 a, Value.int IntKind.i64 b, Value.int IntKind.u64 z0, Value.int IntKind.u64 z1, Value.int IntKind.u64 z2, Value.int IntKind.u64 z3],
    fun _ => True,
    fun _ => decide ((0 : Int) < (↑(usN op a b) : Int)) = true,
    fun _ => (0 : Int) ≤ (0 : Int) ∧ (0 : Int) < (↑(usN op a b) : Int),
    fun _ => (0 : Nat) < List.length (mapv (usL op a b)),
    fun _ => (mapv (usL op a b))[(0 : Nat)]? = some (SV.v (Value.int IntKind.i64 a)),
    fun _ => decide (a < (0 : Int)) = false,
    fun _ => (0 : Int) ≤ (0 : Int) ∧ (0 : Int) < (↑(usN op a b) : Int),
    fun _ => (0 : Nat) < List.length (mapv (usL op a b)),
    fun _ => (mapv (usL op a b))[(0 : Nat)]? = some (SV.v (Value.int IntKind.i64 a)),
    fun _ => decide ((↑k : Int) ≤ a) = false,
    fun _ => decide ((1 : Int) < (↑(usN op a b) : Int)) = false] (It.rnd [(0 : Nat), (0 : Nat), (1 : Nat), (0 : Nat), (1 : Nat)] (M + (1 : Nat)) :: kt) (St.mk [((3 : Nat), SV.v (Value.int IntKind.i64 (IntKind.wrap IntKind.i64 ((↑k : Int) + (1 : Int))))), ((2 : Nat), SV.v (Value.bool false)), ((0 : Nat), SV.v (Value.slice (some ad) n cap))] [HO.row (3 : Nat) (1 : Nat) (usN op a b) (mapv (usL op a b))])]
  := by kernel_rfl

theorem oda (ad : Addr) (n cap k M : Nat) (op a b z0 z1 z2 z3 : Int) (kt : List It) : ((xgo Try.prog X (bodyOf Try.f68) 50 K12 [([0,1,1,1,0,0,1,0,0,1,0,1],3)] 90 [.t, .ld (.v (.int .i64 op)), .f, .ld (.v (.int .i64 op)), .f, .ld (.agg [.v (.int .i64 op), .v (.int .i64 a), .v (.int .i64 b), .v (.int .u64 z0), .v (.int .u64 z1), .v (.int .u64 z2), .v (.int .u64 z3)]), .t, .lo 0 (.v (.int .i64 a)), .f, .lo 0 (.v (.int .i64 a)), .f, .t, .lo 0 (.v (.int .i64 b)), .f, .lo 0 (.v (.int .i64 b)), .f, .f] ((.nil)) (.at [0,0,1,0,1] :: .rnd [0,0,1,0,1] (M + 1) :: kt) ⟨[(3, .v (.int .i64 (k : Int))), (2, .v (.bool false)), (0, .v (.slice (some ad) n cap))], []⟩ [] []).map (trims [3, 2, 0])) =
  some [Leaf2.mk [] [fun _ => decide ((↑k : Int) < (↑n : Int)) = true,
    fun _ => (0 : Int) ≤ (↑k : Int) ∧ (↑k : Int) < (↑n : Int),
    fun _ => true = true,
    fun _ => true = true, fun M => MCells (fun a => M a) (some (if (0 : Nat) = (0 : Nat) then if Int.toNat (↑k : Int) * (7 : Nat) = (0 : Nat) then ad else Addr.mk ad.1 (ad.2 + Int.toNat (↑k : Int) * (7 : Nat)) none else Addr.mk (if Int.toNat (↑k : Int) * (7 : Nat) = (0 : Nat) then ad else Addr.mk ad.1 (ad.2 + Int.toNat (↑k : Int) * (7 : Nat)) none).1 ((if Int.toNat (↑k : Int) * (7 : Nat) = (0 : Nat) then ad else Addr.mk ad.1 (ad.2 + Int.toNat (↑k : Int) * (7 : Nat)) none).2 + (0 : Nat)) none)) [Value.int IntKind.i64 op],
    fun _ => decide (op < (1 : Int)) = false,
    fun _ => (0 : Int) ≤ (↑k : Int) ∧ (↑k : Int) < (↑n : Int),
    fun _ => true = true,
    fun _ => true = true, fun M => MCells (fun a => M a) (some (if (0 : Nat) = (0 : Nat) then if Int.toNat (↑k : Int) * (7 : Nat) = (0 : Nat) then ad else Addr.mk ad.1 (ad.2 + Int.toNat (↑k : Int) * (7 : Nat)) none else Addr.mk (if Int.toNat (↑k : Int) * (7 : Nat) = (0 : Nat) then ad else Addr.mk ad.1 (ad.2 + Int.toNat (↑k : Int) * (7 : Nat)) none).1 ((if Int.toNat (↑k : Int) * (7 : Nat) = (0 : Nat) then ad else Addr.mk ad.1 (ad.2 + Int.toNat (↑k : Int) * (7 : Nat)) none).2 + (0 : Nat)) none)) [Value.int IntKind.i64 op],
    fun _ => decide ((8 : Int) < op) = false,
    fun _ => (0 : Int) ≤ (↑k : Int) ∧ (↑k : Int) < (↑n : Int),
    fun _ => true = true, fun M => MCells (fun a => M a) (some (if Int.toNat (↑k : Int) * (7 : Nat) = (0 : Nat) then ad else Addr.mk ad.1 (ad.2 + Int.toNat (↑k : Int) * (7 : Nat)) none)) [Value.int IntKind.i64 op, Value.int IntKind.i64 a, Value.int IntKind.i64 b, Value.int IntKind.u64 z0, Value.int IntKind.u64 z1, Value.int IntKind.u64 z2, Value.int IntKind.u64 z3],
    fun _ => True,
    fun _ => decide ((0 : Int) < (↑(usN op a b) : Int)) = true,
    fun _ => (0 : Int) ≤ (0 : Int) ∧ (0 : Int) < (↑(usN op a b) : Int),
    fun _ => (0 : Nat) < List.length (mapv (usL op a b)),
    fun _ => (mapv (usL op a b))[(0 : Nat)]? = some (SV.v (Value.int IntKind.i64 a)),
    fun _ => decide (a < (0 : Int)) = false,
    fun _ => (0 : Int) ≤ (0 : Int) ∧ (0 : Int) < (↑(usN op a b) : Int),
    fun _ => (0 : Nat) < List.length (mapv (usL op a b)),
    fun _ => (mapv (usL op a b))[(0 : Nat)]? = some (SV.v (Value.int IntKind.i64 a)),
    fun _ => decide ((↑k : Int) ≤ a) = false,
    fun _ => decide ((1 : Int) < (↑(usN op a b) : Int)) = true,
    fun _ => (0 : Int) ≤ (1 : Int) ∧ (1 : Int) < (↑(usN op a b) : Int),
    fun _ => (0 : Nat) < List.length (mapv (usL op a b)),
    fun _ => (mapv (usL op a b))[(1 : Nat)]? = some (SV.v (Value.int IntKind.i64 b)),
    fun _ => decide (b < (0 : Int)) = false,
    fun _ => (0 : Int) ≤ (1 : Int) ∧ (1 : Int) < (↑(usN op a b) : Int),
    fun _ => (0 : Nat) < List.length (mapv (usL op a b)),
    fun _ => (mapv (usL op a b))[(1 : Nat)]? = some (SV.v (Value.int IntKind.i64 b)),
    fun _ => decide ((↑k : Int) ≤ b) = false,
    fun _ => decide ((2 : Int) < (↑(usN op a b) : Int)) = false] (It.rnd [(0 : Nat), (0 : Nat), (1 : Nat), (0 : Nat), (1 : Nat)] (M + (1 : Nat)) :: kt) (St.mk [((3 : Nat), SV.v (Value.int IntKind.i64 (IntKind.wrap IntKind.i64 ((↑k : Int) + (1 : Int))))), ((2 : Nat), SV.v (Value.bool false)), ((0 : Nat), SV.v (Value.slice (some ad) n cap))] [HO.row (3 : Nat) (1 : Nat) (usN op a b) (mapv (usL op a b))])]
  := by kernel_rfl

theorem oe1 (ad : Addr) (n cap k M : Nat) (op a b z0 z1 z2 z3 : Int) : (((xgo Try.prog X (bodyOf Try.f68) 50 K12 [([0,1,1,1,0,0,1,0,0,1,0,1],3)] 90 [.t, .ld (.v (.int .i64 op)), .f, .ld (.v (.int .i64 op)), .f, .ld (.agg [.v (.int .i64 op), .v (.int .i64 a), .v (.int .i64 b), .v (.int .u64 z0), .v (.int .u64 z1), .v (.int .u64 z2), .v (.int .u64 z3)]), .t, .lo 0 (.v (.int .i64 a)), .t, .t] ((.nil)) [.at [0,0,1,0,1], .rnd [0,0,1,0,1] (M + 1), .blk 0, .at [1,1]] ⟨[(3, .v (.int .i64 (k : Int))), (2, .v (.bool false)), (0, .v (.slice (some ad) n cap))], []⟩ [] []).bind (ends Try.prog Try.f68.results.toList)).bind plainE) =
  some [EndP.mk [] [fun _ => decide ((↑k : Int) < (↑n : Int)) = true,
    fun _ => (0 : Int) ≤ (↑k : Int) ∧ (↑k : Int) < (↑n : Int),
    fun _ => true = true,
    fun _ => true = true, fun M => MCells (fun a => M a) (some (if (0 : Nat) = (0 : Nat) then if Int.toNat (↑k : Int) * (7 : Nat) = (0 : Nat) then ad else Addr.mk ad.1 (ad.2 + Int.toNat (↑k : Int) * (7 : Nat)) none else Addr.mk (if Int.toNat (↑k : Int) * (7 : Nat) = (0 : Nat) then ad else Addr.mk ad.1 (ad.2 + Int.toNat (↑k : Int) * (7 : Nat)) none).1 ((if Int.toNat (↑k : Int) * (7 : Nat) = (0 : Nat) then ad else Addr.mk ad.1 (ad.2 + Int.toNat (↑k : Int) * (7 : Nat)) none).2 + (0 : Nat)) none)) [Value.int IntKind.i64 op],
    fun _ => decide (op < (1 : Int)) = false,
    fun _ => (0 : Int) ≤ (↑k : Int) ∧ (↑k : Int) < (↑n : Int),
    fun _ => true = true,
    fun _ => true = true, fun M => MCells (fun a => M a) (some (if (0 : Nat) = (0 : Nat) then if Int.toNat (↑k : Int) * (7 : Nat) = (0 : Nat) then ad else Addr.mk ad.1 (ad.2 + Int.toNat (↑k : Int) * (7 : Nat)) none else Addr.mk (if Int.toNat (↑k : Int) * (7 : Nat) = (0 : Nat) then ad else Addr.mk ad.1 (ad.2 + Int.toNat (↑k : Int) * (7 : Nat)) none).1 ((if Int.toNat (↑k : Int) * (7 : Nat) = (0 : Nat) then ad else Addr.mk ad.1 (ad.2 + Int.toNat (↑k : Int) * (7 : Nat)) none).2 + (0 : Nat)) none)) [Value.int IntKind.i64 op],
    fun _ => decide ((8 : Int) < op) = false,
    fun _ => (0 : Int) ≤ (↑k : Int) ∧ (↑k : Int) < (↑n : Int),
    fun _ => true = true, fun M => MCells (fun a => M a) (some (if Int.toNat (↑k : Int) * (7 : Nat) = (0 : Nat) then ad else Addr.mk ad.1 (ad.2 + Int.toNat (↑k : Int) * (7 : Nat)) none)) [Value.int IntKind.i64 op, Value.int IntKind.i64 a, Value.int IntKind.i64 b, Value.int IntKind.u64 z0, Value.int IntKind.u64 z1, Value.int IntKind.u64 z2, Value.int IntKind.u64 z3],
    fun _ => True,
    fun _ => decide ((0 : Int) < (↑(usN op a b) : Int)) = true,
    fun _ => (0 : Int) ≤ (0 : Int) ∧ (0 : Int) < (↑(usN op a b) : Int),
    fun _ => (0 : Nat) < List.length (mapv (usL op a b)),
    fun _ => (mapv (usL op a b))[(0 : Nat)]? = some (SV.v (Value.int IntKind.i64 a)),
    fun _ => decide (a < (0 : Int)) = true,
    fun _ => true = true] (Res.v (Value.bool false))]
  := by kernel_rfl

theorem oe2 (ad : Addr) (n cap k M : Nat) (op a b z0 z1 z2 z3 : Int) : (((xgo Try.prog X (bodyOf Try.f68) 50 K12 [([0,1,1,1,0,0,1,0,0,1,0,1],3)] 90 [.t, .ld (.v (.int .i64 op)), .f, .ld (.v (.int .i64 op)), .f, .ld (.agg [.v (.int .i64 op), .v (.int .i64 a), .v (.int .i64 b), .v (.int .u64 z0), .v (.int .u64 z1), .v (.int .u64 z2), .v (.int .u64 z3)]), .t, .lo 0 (.v (.int .i64 a)), .f, .lo 0 (.v (.int .i64 a)), .t] ((.nil)) [.at [0,0,1,0,1], .rnd [0,0,1,0,1] (M + 1), .blk 0, .at [1,1]] ⟨[(3, .v (.int .i64 (k : Int))), (2, .v (.bool false)), (0, .v (.slice (some ad) n cap))], []⟩ [] []).bind (ends Try.prog Try.f68.results.toList)).bind plainE) =
  some [EndP.mk [] [fun _ => decide ((↑k : Int) < (↑n : Int)) = true,
    fun _ => (0 : Int) ≤ (↑k : Int) ∧ (↑k : Int) < (↑n : Int),
    fun _ => true = true,
    fun _ => true = true, fun M => MCells (fun a => M a) (some (if (0 : Nat) = (0 : Nat) then if Int.toNat (↑k : Int) * (7 : Nat) = (0 : Nat) then ad else Addr.mk ad.1 (ad.2 + Int.toNat (↑k : Int) * (7 : Nat)) none else Addr.mk (if Int.toNat (↑k : Int) * (7 : Nat) = (0 : Nat) then ad else Addr.mk ad.1 (ad.2 + Int.toNat (↑k : Int) * (7 : Nat)) none).1 ((if Int.toNat (↑k : Int) * (7 : Nat) = (0 : Nat) then ad else Addr.mk ad.1 (ad.2 + Int.toNat (↑k : Int) * (7 : Nat)) none).2 + (0 : Nat)) none)) [Value.int IntKind.i64 op],
    fun _ => decide (op < (1 : Int)) = false,
    fun _ => (0 : Int) ≤ (↑k : Int) ∧ (↑k : Int) < (↑n : Int),
    fun _ => true = true,
    fun _ => true = true, fun M => MCells (fun a => M a) (some (if (0 : Nat) = (0 : Nat) then if Int.toNat (↑k : Int) * (7 : Nat) = (0 : Nat) then ad else Addr.mk ad.1 (ad.2 + Int.toNat (↑k : Int) * (7 : Nat)) none else Addr.mk (if Int.toNat (↑k : Int) * (7 : Nat) = (0 : Nat) then ad else Addr.mk ad.1 (ad.2 + Int.toNat (↑k : Int) * (7 : Nat)) none).1 ((if Int.toNat (↑k : Int) * (7 : Nat) = (0 : Nat) then ad else Addr.mk ad.1 (ad.2 + Int.toNat (↑k : Int) * (7 : Nat)) none).2 + (0 : Nat)) none)) [Value.int IntKind.i64 op],
    fun _ => decide ((8 : Int) < op) = false,
    fun _ => (0 : Int) ≤ (↑k : Int) ∧ (↑k : Int) < (↑n : Int),
    fun _ => true = true, fun M => MCells (fun a => M a) (some (if Int.toNat (↑k : Int) * (7 : Nat) = (0 : Nat) then ad else Addr.mk ad.1 (ad.2 + Int.toNat (↑k : Int) * (7 : Nat)) none)) [Value.int IntKind.i64 op, Value.int IntKind.i64 a, Value.int IntKind.i64 b, Value.int IntKind.u64 z0, Value.int IntKind.u64 z1, Value.int IntKind.u64 z2, Value.int IntKind.u64 z3],
    fun _ => True,
    fun _ => decide ((0 : Int) < (↑(usN op a b) : Int)) = true,
    fun _ => (0 : Int) ≤ (0 : Int) ∧ (0 : Int) < (↑(usN op a b) : Int),
    fun _ => (0 : Nat) < List.length (mapv (usL op a b)),
    fun _ => (mapv (usL op a b))[(0 : Nat)]? = some (SV.v (Value.int IntKind.i64 a)),
    fun _ => decide (a < (0 : Int)) = false,
    fun _ => (0 : Int) ≤ (0 : Int) ∧ (0 : Int) < (↑(usN op a b) : Int),
    fun _ => (0 : Nat) < List.length (mapv (usL op a b)),
    fun _ => (mapv (usL op a b))[(0 : Nat)]? = some (SV.v (Value.int IntKind.i64 a)),
    fun _ => decide ((↑k : Int) ≤ a) = true] (Res.v (Value.bool false))]
  := by kernel_rfl

theorem oe3 (ad : Addr) (n cap k M : Nat) (op a b z0 z1 z2 z3 : Int) : (((xgo Try.prog X (bodyOf Try.f68) 50 K12 [([0,1,1,1,0,0,1,0,0,1,0,1],3)] 90 [.t, .ld (.v (.int .i64 op)), .f, .ld (.v (.int .i64 op)), .f, .ld (.agg [.v (.int .i64 op), .v (.int .i64 a), .v (.int .i64 b), .v (.int .u64 z0), .v (.int .u64 z1), .v (.int .u64 z2), .v (.int .u64 z3)]), .t, .lo 0 (.v (.int .i64 a)), .f, .lo 0 (.v (.int .i64 a)), .f, .t, .lo 0 (.v (.int .i64 b)), .t, .t] ((.nil)) [.at [0,0,1,0,1], .rnd [0,0,1,0,1] (M + 1), .blk 0, .at [1,1]] ⟨[(3, .v (.int .i64 (k : Int))), (2, .v (.bool false)), (0, .v (.slice (some ad) n cap))], []⟩ [] []).bind (ends Try.prog Try.f68.results.toList)).bind plainE) =
  some [EndP.mk [] [fun _ => decide ((↑k : Int) < (↑n : Int)) = true,
    fun _ => (0 : Int) ≤ (↑k : Int) ∧ (↑k : Int) < (↑n : Int),
    fun _ => true = true,
    fun _ => true = true, fun M => MCells (fun a => M a) (some (if (0 : Nat) = (0 : Nat) then if Int.toNat (↑k : Int) * (7 : Nat) = (0 : Nat) then ad else Addr.mk ad.1 (ad.2 + Int.toNat (↑k : Int) * (7 : Nat)) none else Addr.mk (if Int.toNat (↑k : Int) * (7 : Nat) = (0 : Nat) then ad else Addr.mk ad.1 (ad.2 + Int.toNat (↑k : Int) * (7 : Nat)) none).1 ((if Int.toNat (↑k : Int) * (7 : Nat) = (0 : Nat) then ad else Addr.mk ad.1 (ad.2 + Int.toNat (↑k : Int) * (7 : Nat)) none).2 + (0 : Nat)) none)) [Value.int IntKind.i64 op],
    fun _ => decide (op < (1 : Int)) = false,
    fun _ => (0 : Int) ≤ (↑k : Int) ∧ (↑k : Int) < (↑n : Int),
    fun _ => true = true,
    fun _ => true = true, fun M => MCells (fun a => M a) (some (if (0 : Nat) = (0 : Nat) then if Int.toNat (↑k : Int) * (7 : Nat) = (0 : Nat) then ad else Addr.mk ad.1 (ad.2 + Int.toNat (↑k : Int) * (7 : Nat)) none else Addr.mk (if Int.toNat (↑k : Int) * (7 : Nat) = (0 : Nat) then ad else Addr.mk ad.1 (ad.2 + Int.toNat (↑k : Int) * (7 : Nat)) none).1 ((if Int.toNat (↑k : Int) * (7 : Nat) = (0 : Nat) then ad else Addr.mk ad.1 (ad.2 + Int.toNat (↑k : Int) * (7 : Nat)) none).2 + (0 : Nat)) none)) [Value.int IntKind.i64 op],
    fun _ => decide ((8 : Int) < op) = false,
    fun _ => (0 : Int) ≤ (↑k : Int) ∧ (↑k : Int) < (↑n : Int),
    fun _ => true = true, fun M => MCells (fun a => M a) (some (if Int.toNat (↑k : Int) * (7 : Nat) = (0 : Nat) then ad else Addr.mk ad.1 (ad.2 + Int.toNat (↑k : Int) * (7 : Nat)) none)) [Value.int IntKind.i64 op, Value.int IntKind.i64 a, Value.int IntKind.i64 b, Value.int IntKind.u64 z0, Value.int IntKind.u64 z1, Value.int IntKind.u64 z2, Value.int IntKind.u64 z3],
    fun _ => True,
    fun _ => decide ((0 : Int) < (↑(usN op a b) : Int)) = true,
    fun _ => (0 : Int) ≤ (0 : Int) ∧ (0 : Int) < (↑(usN op a b) : Int),
    fun _ => (0 : Nat) < List.length (mapv (usL op a b)),
    fun _ => (mapv (usL op a b))[(0 : Nat)]? = some (SV.v (Value.int IntKind.i64 a)),
    fun _ => decide (a < (0 : Int)) = false,
    fun _ => (0 : Int) ≤ (0 : Int) ∧ (0 : Int) < (↑(usN op a b) : Int),
    fun _ => (0 : Nat) < List.length (mapv (usL op a b)),
    fun _ => (mapv (usL op a b))[(0 : Nat)]? = some (SV.v (Value.int IntKind.i64 a)),
    fun _ => decide ((↑k : Int) ≤ a) = false,
    fun _ => decide ((1 : Int) < (↑(usN op a b) : Int)) = true,
    fun _ => (0 : Int) ≤ (1 : Int) ∧ (1 : Int) < (↑(usN op a b) : Int),
    fun _ => (0 : Nat) < List.length (mapv (usL op a b)),
    fun _ => (mapv (usL op a b))[(1 : Nat)]? = some (SV.v (Value.int IntKind.i64 b)),
    fun _ => decide (b < (0 : Int)) = true,
    fun _ => true = true] (Res.v (Value.bool false))]
  := by kernel_rfl

theorem oe4 (ad : Addr) (n cap k M : Nat) (op a b z0 z1 z2 z3 : Int) : (((xgo Try.prog X (bodyOf Try.f68) 50 K12 [([0,1,1,1,0,0,1,0,0,1,0,1],3)] 90 [.t, .ld (.v (.int .i64 op)), .f, .ld (.v (.int .i64 op)), .f, .ld (.agg [.v (.int .i64 op), .v (.int .i64 a), .v (.int .i64 b), .v (.int .u64 z0), .v (.int .u64 z1), .v (.int .u64 z2), .v (.int .u64 z3)]), .t, .lo 0 (.v (.int .i64 a)), .f, .lo 0 (.v (.int .i64 a)), .f, .t, .lo 0 (.v (.int .i64 b)), .f, .lo 0 (.v (.int .i64 b)), .t] ((.nil)) [.at [0,0,1,0,1], .rnd [0,0,1,0,1] (M + 1), .blk 0, .at [1,1]] ⟨[(3, .v (.int .i64 (k : Int))), (2, .v (.bool false)), (0, .v (.slice (some ad) n cap))], []⟩ [] []).bind (ends Try.prog Try.f68.results.toList)).bind plainE) =
  some [EndP.mk [] [fun _ => decide ((↑k : Int) < (↑n : Int)) = true,
    fun _ => (0 : Int) ≤ (↑k : Int) ∧ (↑k : Int) < (↑n : Int),
    fun _ => true = true,
    fun _ => true = true, fun M => MCells (fun a => M a) (some (if (0 : Nat) = (0 : Nat) then if Int.toNat (↑k : Int) * (7 : Nat) = (0 : Nat) then ad else Addr.mk ad.1 (ad.2 + Int.toNat (↑k : Int) * (7 : Nat)) none else Addr.mk (if Int.toNat (↑k : Int) * (7 : Nat) = (0 : Nat) then ad else Addr.mk ad.1 (ad.2 + Int.toNat (↑k : Int) * (7 : Nat)) none).1 ((if Int.toNat (↑k : Int) * (7 : Nat) = (0 : Nat) then ad else Addr.mk ad.1 (ad.2 + Int.toNat (↑k : Int) * (7 : Nat)) none).2 + (0 : Nat)) none)) [Value.int IntKind.i64 op],
    fun _ => decide (op < (1 : Int)) = false,
    fun _ => (0 : Int) ≤ (↑k : Int) ∧ (↑k : Int) < (↑n : Int),
    fun _ => true = true,
    fun _ => true = true, fun M => MCells (fun a => M a) (some (if (0 : Nat) = (0 : Nat) then if Int.toNat (↑k : Int) * (7 : Nat) = (0 : Nat) then ad else Addr.mk ad.1 (ad.2 + Int.toNat (↑k : Int) * (7 : Nat)) none else Addr.mk (if Int.toNat (↑k : Int) * (7 : Nat) = (0 : Nat) then ad else Addr.mk ad.1 (ad.2 + Int.toNat (↑k : Int) * (7 : Nat)) none).1 ((if Int.toNat (↑k : Int) * (7 : Nat) = (0 : Nat) then ad else Addr.mk ad.1 (ad.2 + Int.toNat (↑k : Int) * (7 : Nat)) none).2 + (0 : Nat)) none)) [Value.int IntKind.i64 op],
    fun _ => decide ((8 : Int) < op) = false,
    fun _ => (0 : Int) ≤ (↑k : Int) ∧ (↑k : Int) < (↑n : Int),
    fun _ => true = true, fun M => MCells (fun a => M a) (some (if Int.toNat (↑k : Int) * (7 : Nat) = (0 : Nat) then ad else Addr.mk ad.1 (ad.2 + Int.toNat (↑k : Int) * (7 : Nat)) none)) [Value.int IntKind.i64 op, Value.int IntKind.i64 a, Value.int IntKind.i64 b, Value.int IntKind.u64 z0, Value.int IntKind.u64 z1, Value.int IntKind.u64 z2, Value.int IntKind.u64 z3],
    fun _ => True,
    fun _ => decide ((0 : Int) < (↑(usN op a b) : Int)) = true,
    fun _ => (0 : Int) ≤ (0 : Int) ∧ (0 : Int) < (↑(usN op a b) : Int),
    fun _ => (0 : Nat) < List.length (mapv (usL op a b)),
    fun _ => (mapv (usL op a b))[(0 : Nat)]? = some (SV.v (Value.int IntKind.i64 a)),
    fun _ => decide (a < (0 : Int)) = false,
    fun _ => (0 : Int) ≤ (0 : Int) ∧ (0 : Int) < (↑(usN op a b) : Int),
    fun _ => (0 : Nat) < List.length (mapv (usL op a b)),
    fun _ => (mapv (usL op a b))[(0 : Nat)]? = some (SV.v (Value.int IntKind.i64 a)),
    fun _ => decide ((↑k : Int) ≤ a) = false,
    fun _ => decide ((1 : Int) < (↑(usN op a b) : Int)) = true,
    fun _ => (0 : Int) ≤ (1 : Int) ∧ (1 : Int) < (↑(usN op a b) : Int),
    fun _ => (0 : Nat) < List.length (mapv (usL op a b)),
    fun _ => (mapv (usL op a b))[(1 : Nat)]? = some (SV.v (Value.int IntKind.i64 b)),
    fun _ => decide (b < (0 : Int)) = false,
    fun _ => (0 : Int) ≤ (1 : Int) ∧ (1 : Int) < (↑(usN op a b) : Int),
    fun _ => (0 : Nat) < List.length (mapv (usL op a b)),
    fun _ => (mapv (usL op a b))[(1 : Nat)]? = some (SV.v (Value.int IntKind.i64 b)),
    fun _ => decide ((↑k : Int) ≤ b) = true] (Res.v (Value.bool false))]
  := by kernel_rfl

theorem odE (oa : Option Addr) (n cap k M : Nat) : (((xgo Try.prog X (bodyOf Try.f68) 50 K12 [([0,1,1,1,0,0,1,0,0,1,0,1],3)] 60 [.f] ((.nil)) [.at [0,0,1,0,1], .rnd [0,0,1,0,1] (M + 1), .blk 0, .at [1,1]] ⟨[(3, .v (.int .i64 (k : Int))), (2, .v (.bool false)), (0, .v (.slice oa n cap))], []⟩ [] []).bind (ends Try.prog Try.f68.results.toList)).bind plainE) =
  some [EndP.mk [] [fun _ => decide ((↑k : Int) < (↑n : Int)) = false] (Res.v (Value.bool true))]
  := by kernel_rfl

theorem odS (oa : Option Addr) (n cap : Nat) : ((xgo Try.prog X (bodyOf Try.f68) 50 K12 [([0,1,1,1,0,0,1,0,0,1,0,1],3)] 60 [] ((.nil)) [.at []] ⟨argsTm 0 [.slice oa n cap], []⟩ [] []).map (trims [3, 2, 0])) =
  some [Leaf2.mk [] [] [It.at [(0 : Nat), (1 : Nat), (0 : Nat), (1 : Nat)], It.blk (0 : Nat), It.at [(1 : Nat), (1 : Nat)]] (St.mk [((3 : Nat), SV.v (Value.int IntKind.i64 (0 : Int))), ((2 : Nat), SV.v (Value.bool false)), ((0 : Nat), SV.v (Value.slice oa n cap))] [])]
  := by kernel_rfl

noncomputable def stO (oa : Option Addr) (n cap k : Nat) : St := ⟨[(3, .v (.int .i64 (k : Int))), (2, .v (.bool false)), (0, .v (.slice oa n cap))], []⟩
theorem od_weak {w : World} {fin : Exit → Act → World → Prop} (oa : Option Addr) (n cap k : Nat) (kt : List It) (tm : List (Nat × SV)) (hp : List HO) (h1 : RenT [] tm (stO oa n cap k).tm)
    (next : Ok Try.prog (bodyOf Try.f68) 50 (F0 w) w fin kt (stO oa n cap k)) : Ok Try.prog (bodyOf Try.f68) 50 (F0 w) w fin kt ⟨tm, hp⟩ :=
  Ok.weaken (st' := stO oa n cap k) (F0.mono w) [] h1 trivial rfl ⟨by simp [stO, wsAllT, ws], trivial⟩ next
theorem od_loop {w : World} (oa : Option Addr) (n cap : Nat) (all : List Nd) (hn : all.length = n) (hb : n ≤ 4398046511104) (ha : nodesC all = [] ∨ MCells (wmem w) oa (nodesC all)) (R : Res → Prop) :
    ∀ (l pre : List Nd), all = pre ++ l → R (.v (.bool (ordN pre.length l))) →
    Ok Try.prog (bodyOf Try.f68) 50 (F0 w) w (bodyPost Try.prog Try.f68 fun E w' => ∃ v r, E = .returned v ∧ R r ∧ r.ok w w' v ∧ Below w.heap.size w w') (.rnd [0,0,1,0,1] (l.length + 2) :: [.blk 0, .at [1,1]]) (stO oa n cap pre.length)
  | [], pre, he, hR => by
    have hl : pre.length = n := by rw [← hn, he]; simp
    refine Ok.rnd (ok_plain hm (F0.mono w) (fun _ h => h) 60 _ _ _ _ (odE oa n cap pre.length 0) ⟨fun _ => ⟨?_, hR⟩, trivial⟩)
    simp only [hold_cons, hold_nil, and_true]
    exact fun _ _ => decide_eq_false (by omega)
  | x :: l, pre, he, hR => by
    have hl : pre.length + (l.length + 1) = n := by rw [← hn, he]; simp
    have hne : MCells (wmem w) oa (nodesC all) := by
      rcases ha with h | h
      · rw [he, nodesC_append, nodesC_cons] at h; simp [ndC] at h
      · exact h
    obtain ⟨ad, rfl, hcells⟩ := hne
    have hx : MCells (wmem w) (some (ad.add (pre.length * 7))) (ndC x) := nodes_at pre l x (by rw [← he]; exact ⟨ad, rfl, hcells⟩)
    have hx0 := nd_op hx
    have hlen : (pre ++ [x]).length = pre.length + 1 := by simp
    have next : R (.v (.bool (ordN (pre.length + 1) l))) → Ok Try.prog (bodyOf Try.f68) 50 (F0 w) w (bodyPost Try.prog Try.f68 fun E w' => ∃ v r, E = .returned v ∧ R r ∧ r.ok w w' v ∧ Below w.heap.size w w') (.rnd [0,0,1,0,1] (l.length + 2) :: [.blk 0, .at [1,1]]) (stO (some ad) n cap (pre.length + 1)) := fun h => by
      have := od_loop (some ad) n cap all hn hb ha R l (pre ++ [x]) (by rw [he]; simp) (by rw [hlen]; exact h)
      rw [hlen] at this
      exact this
    rw [ordN, okN] at hR
    by_cases h1 : x.op < 1
    · rw [decide_eq_false (by omega), Bool.false_and, Bool.false_and] at hR
      refine Ok.rnd (ok_plain hm (F0.mono w) (fun _ h => h) 90 _ _ _ _ (od1 ad n cap pre.length (l.length + 1) x.op x.a x.b (limb x.v 0 : Nat) (limb x.v 1 : Nat) (limb x.v 2 : Nat) (limb x.v 3 : Nat)) ⟨fun _ => ⟨?_, hR⟩, trivial⟩)
      sides
    by_cases h2 : 8 < x.op
    · rw [decide_eq_false (by omega), Bool.false_and, Bool.false_and] at hR
      refine Ok.rnd (ok_plain hm (F0.mono w) (fun _ h => h) 90 _ _ _ _ (od2 ad n cap pre.length (l.length + 1) x.op x.a x.b (limb x.v 0 : Nat) (limb x.v 1 : Nat) (limb x.v 2 : Nat) (limb x.v 3 : Nat)) ⟨fun _ => ⟨?_, hR⟩, trivial⟩)
      sides
    rw [decide_eq_true (by omega), Bool.true_and, usesN_eq] at hR
    by_cases hk1 : x.op = 5 ∨ x.op = 8
    · have hu := us_n x.a x.b hk1
      have hN : usN x.op x.a x.b = 1 := by rw [usN, hide_eq, hu]; rfl
      have hL : (mapv (usL x.op x.a x.b)).length = 1 := by rw [mapv_length, usL, hu]; rfl
      have g0 : (mapv (usL x.op x.a x.b))[0]? = some (.v (.int .i64 x.a)) := by rw [usL, hu]; rfl
      rw [hu, List.all_cons, List.all_nil, Bool.and_true] at hR
      by_cases e1 : x.a < 0
      · rw [decide_eq_false (by omega), Bool.false_and] at hR
        refine Ok.rnd (ok_plain hm (F0.mono w) (fun _ h => h) 90 _ _ _ _ (oe1 ad n cap pre.length (l.length + 1) x.op x.a x.b (limb x.v 0 : Nat) (limb x.v 1 : Nat) (limb x.v 2 : Nat) (limb x.v 3 : Nat)) ⟨fun _ => ⟨?_, hR⟩, trivial⟩)
        sides
      by_cases e2 : (pre.length : Int) ≤ x.a
      · rw [decide_eq_false (by omega), Bool.false_and] at hR
        refine Ok.rnd (ok_plain hm (F0.mono w) (fun _ h => h) 90 _ _ _ _ (oe2 ad n cap pre.length (l.length + 1) x.op x.a x.b (limb x.v 0 : Nat) (limb x.v 1 : Nat) (limb x.v 2 : Nat) (limb x.v 3 : Nat)) ⟨fun _ => ⟨?_, hR⟩, trivial⟩)
        sides
      rw [decide_eq_true (by omega), Bool.true_and] at hR
      refine Ok.rnd (xgo_trim hm (F0.mono w) finB 90 _ _ _ _ _ _ (odn ad n cap pre.length (l.length + 1) x.op x.a x.b (limb x.v 0 : Nat) (limb x.v 1 : Nat) (limb x.v 2 : Nat) (limb x.v 3 : Nat) _) (paidCons (fun _ => ⟨?_, ?_⟩) paidNil))
      · sides
      · simp only [wrap_inc pre.length (by omega)]
        exact od_weak _ _ _ _ _ _ _ ⟨rfl, rfl, rfl, trivial⟩ (next hR)
    by_cases hk2 : x.op = 6 ∨ x.op = 7
    · have hu := us_a x.a x.b hk2
      have hN : usN x.op x.a x.b = 2 := by rw [usN, hide_eq, hu]; rfl
      have hL : (mapv (usL x.op x.a x.b)).length = 2 := by rw [mapv_length, usL, hu]; rfl
      have g0 : (mapv (usL x.op x.a x.b))[0]? = some (.v (.int .i64 x.a)) := by rw [usL, hu]; rfl
      have g1 : (mapv (usL x.op x.a x.b))[1]? = some (.v (.int .i64 x.b)) := by rw [usL, hu]; rfl
      rw [hu, List.all_cons, List.all_cons, List.all_nil, Bool.and_true] at hR
      by_cases e1 : x.a < 0
      · rw [decide_eq_false (p := 0 ≤ x.a ∧ x.a < (pre.length : Int)) (by omega), Bool.false_and, Bool.false_and] at hR
        refine Ok.rnd (ok_plain hm (F0.mono w) (fun _ h => h) 90 _ _ _ _ (oe1 ad n cap pre.length (l.length + 1) x.op x.a x.b (limb x.v 0 : Nat) (limb x.v 1 : Nat) (limb x.v 2 : Nat) (limb x.v 3 : Nat)) ⟨fun _ => ⟨?_, hR⟩, trivial⟩)
        sides
      by_cases e2 : (pre.length : Int) ≤ x.a
      · rw [decide_eq_false (p := 0 ≤ x.a ∧ x.a < (pre.length : Int)) (by omega), Bool.false_and, Bool.false_and] at hR
        refine Ok.rnd (ok_plain hm (F0.mono w) (fun _ h => h) 90 _ _ _ _ (oe2 ad n cap pre.length (l.length + 1) x.op x.a x.b (limb x.v 0 : Nat) (limb x.v 1 : Nat) (limb x.v 2 : Nat) (limb x.v 3 : Nat)) ⟨fun _ => ⟨?_, hR⟩, trivial⟩)
        sides
      rw [decide_eq_true (p := 0 ≤ x.a ∧ x.a < (pre.length : Int)) (by omega), Bool.true_and] at hR
      by_cases e3 : x.b < 0
      · rw [decide_eq_false (by omega), Bool.false_and] at hR
        refine Ok.rnd (ok_plain hm (F0.mono w) (fun _ h => h) 90 _ _ _ _ (oe3 ad n cap pre.length (l.length + 1) x.op x.a x.b (limb x.v 0 : Nat) (limb x.v 1 : Nat) (limb x.v 2 : Nat) (limb x.v 3 : Nat)) ⟨fun _ => ⟨?_, hR⟩, trivial⟩)
        sides
      by_cases e4 : (pre.length : Int) ≤ x.b
      · rw [decide_eq_false (by omega), Bool.false_and] at hR
        refine Ok.rnd (ok_plain hm (F0.mono w) (fun _ h => h) 90 _ _ _ _ (oe4 ad n cap pre.length (l.length + 1) x.op x.a x.b (limb x.v 0 : Nat) (limb x.v 1 : Nat) (limb x.v 2 : Nat) (limb x.v 3 : Nat)) ⟨fun _ => ⟨?_, hR⟩, trivial⟩)
        sides
      rw [decide_eq_true (by omega), Bool.true_and] at hR
      refine Ok.rnd (xgo_trim hm (F0.mono w) finB 90 _ _ _ _ _ _ (oda ad n cap pre.length (l.length + 1) x.op x.a x.b (limb x.v 0 : Nat) (limb x.v 1 : Nat) (limb x.v 2 : Nat) (limb x.v 3 : Nat) _) (paidCons (fun _ => ⟨?_, ?_⟩) paidNil))
      · sides
      · simp only [wrap_inc pre.length (by omega)]
        exact od_weak _ _ _ _ _ _ _ ⟨rfl, rfl, rfl, trivial⟩ (next hR)
    have hu := us_x (op := x.op) x.a x.b (by omega)
    have hN : usN x.op x.a x.b = 0 := by rw [usN, hide_eq, hu]; rfl
    rw [hu, List.all_nil, Bool.true_and] at hR
    refine Ok.rnd (xgo_trim hm (F0.mono w) finB 90 _ _ _ _ _ _ (odx ad n cap pre.length (l.length + 1) x.op x.a x.b (limb x.v 0 : Nat) (limb x.v 1 : Nat) (limb x.v 2 : Nat) (limb x.v 3 : Nat) _) (paidCons (fun _ => ⟨?_, ?_⟩) paidNil))
    · sides
    · simp only [wrap_inc pre.length (by omega)]
      exact od_weak _ _ _ _ _ _ _ ⟨rfl, rfl, rfl, trivial⟩ (next hR)
theorem ordered_ok (oa : Option Addr) (n cap : Nat) (all : List Nd) (hn : all.length = n) (hb : n ≤ 4398046511104) (w : World) (ha : nodesC all = [] ∨ MCells (wmem w) oa (nodesC all)) :
    Calls Try.prog 68 [.slice oa n cap].toArray w (fun E w' => ∃ v, E = .returned v ∧ Res.ok w w' (.v (.bool (ordN 0 all))) v ∧ Below w.heap.size w w') := by
  refine con_end (calls_of_ok (B := bodyOf Try.f68) (n := 50) Try.func68 (by kernel_rfl) rfl rfl (F := F0 w) (fun _ _ h => h) ?_)
  refine xgo_trim hm (F0.mono w) finB 60 _ _ _ _ _ _ (odS oa n cap) (paidCons (fun _ => ⟨?_, ?_⟩) paidNil)
  · simp only [hold_nil]
  · exact ok_mono (st := stO oa n cap 0) rfl (Ok.loop (all.length + 2) (by kernel_rfl) (od_loop oa n cap all hn hb ha (fun r => r = .v (.bool (ordN 0 all))) all [] rfl rfl))
noncomputable def gOrd : List RV → Option (Res × Prop)
  | [.r n cs] => some (.v (.bool (stB cs)), cs = nodesC (unNds cs) ∧ (unNds cs).length = n ∧ n ≤ 4398046511104)
  | _ => none
theorem gOrd_ok (rvs : List RV) (r : Res) (p : Prop) (vs : List Value) (w : World) (hg : gOrd rvs = some (r, p)) (hp : p) (hv : RVs (wmem w) rvs vs) : Calls Try.prog 68 vs.toArray w (fun E w' => ∃ v, E = .returned v ∧ r.ok w w' v ∧ Below w.heap.size w w') := by
  unfold gOrd at hg
  split at hg
  · simp only [Option.some.injEq, Prod.mk.injEq] at hg
    obtain ⟨rfl, rfl⟩ := hg
    obtain ⟨hc, hn, hb⟩ := hp
    match vs, hv with
    | [x], ⟨⟨oa, cap, h1, h2⟩, _⟩ =>
      rw [h1, stB, hidQ_eq]
      rw [hc] at h2
      exact ordered_ok oa _ cap _ hn hb w h2
  · cases hg
noncomputable def K13 : Con Try.prog := K12.add 68 gOrd gOrd_ok
end Go.Proofs.Ytpghmnpbfaichaa
