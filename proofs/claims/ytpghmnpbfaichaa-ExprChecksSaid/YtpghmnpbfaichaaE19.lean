/- Comparing rows; the copy of nodes. -/
import Derived.Test.YtpghmnpbfaichaaE18
namespace Go.Pl
open Go.Sx
noncomputable def eqB {α : Type} (a b : α) : Bool := @decide (a = b) (Classical.propDecidable _)
theorem eqB_true {α : Type} {a b : α} (h : a = b) : eqB a b = true := by rw [eqB]; exact @decide_eq_true _ (Classical.propDecidable _) h
theorem eqB_false {α : Type} {a b : α} (h : a ≠ b) : eqB a b = false := by rw [eqB]; exact @decide_eq_false _ (Classical.propDecidable _) h
theorem eqB_cons {α : Type} (x y : α) (a b : List α) (h : x = y) : eqB (x :: a) (y :: b) = eqB a b := by
  by_cases e : a = b
  · rw [eqB_true e, eqB_true (by rw [h, e])]
  · rw [eqB_false e, eqB_false (by intro hh; exact e (List.cons.inj hh).2)]
noncomputable def siB (cs ds : List Value) : Bool := hidQ (eqB (unIs cs) (unIs ds))
noncomputable def snB (cs ds : List Value) : Bool := hidQ (eqB (unNds cs) (unNds ds))
noncomputable def sqB (cs ds : List Value) : Bool := hidQ (eqB (unQs cs) (unQs ds))
theorem siB_self (cs : List Value) : siB cs cs = true := by rw [siB, hidQ_eq, eqB_true rfl]
theorem snB_self (cs : List Value) : snB cs cs = true := by rw [snB, hidQ_eq, eqB_true rfl]
theorem sqB_self (cs : List Value) : sqB cs cs = true := by rw [sqB, hidQ_eq, eqB_true rfl]
def elI (x : Int) : List Value := [.int .i64 x]
def elQ (x : Qy) : List Value := [.int .i64 x.1, .int .i64 x.2.1, .int .i64 x.2.2]
theorem ints_at {M : Mem} {ad : Addr} (pre l : List Int) (x : Int) (h : MCells M (some ad) (intsC (pre ++ x :: l))) : MCells M (some (ad.add (pre.length * 1))) [.int .i64 x] := by
  refine MCells.at h (pre.length * 1) _ fun j v hj => ?_
  match j, hj with
  | 0, hj =>
    simp only [List.getElem?_cons_zero, Option.some.injEq] at hj
    subst hj
    simp [intsC]
theorem nodes_flat (l : List Nd) : ∀ u ∈ nodesC l, (match u with | Value.agg cells => false | Value.tuple vs => false | x => true) = true := by
  intro u hu
  rw [nodesC, List.mem_flatMap] at hu
  obtain ⟨x, _, h⟩ := hu
  simp only [ndC, List.mem_cons, List.not_mem_nil, or_false] at h
  rcases h with rfl | rfl | rfl | rfl | rfl | rfl | rfl <;> rfl
theorem nd_inj {x y : Nd} (hx : x.v < top) (hy : y.v < top) (h : [x.op, x.a, x.b, (limb x.v 0 : Nat), (limb x.v 1 : Nat), (limb x.v 2 : Nat), (limb x.v 3 : Nat)] = [y.op, y.a, y.b, (limb y.v 0 : Nat), (limb y.v 1 : Nat), (limb y.v 2 : Nat), (limb y.v 3 : Nat)]) : x = y := by
  have e : nodesC [x] = nodesC [y] := by
    simp only [List.cons.injEq, and_true] at h
    obtain ⟨h1, h2, h3, h4, h5, h6, h7⟩ := h
    simp only [nodesC, List.flatMap_cons, List.flatMap_nil, ndC, h1, h2, h3, h4, h5, h6, h7]
  have := congrArg unNds e
  rw [unNds_nodesC [x] (by simp [hx]), unNds_nodesC [y] (by simp [hy])] at this
  exact List.head_eq_of_cons_eq this
end Go.Pl
namespace Go.Proofs.Ytpghmnpbfaichaa
open Go.Sx Go.Pl Go.RowKit
set_option linter.unusedVariables false
theorem sm41t (ad ad2 : Addr) (n cap m cap2 k M : Nat) (x0 x1 : Int) (kt : List It) : ((xgo Try.prog X (bodyOf Try.f41) 26 K18 [] 60 [.t, .ld (.v (.int .i64 x0)), .ld (.v (.int .i64 x1)), .f] ((.nil)) (.at [0,0,1,0,1,1] :: .rnd [0,0,1,0,1,1] (M + 1) :: kt) ⟨[(5, .v (.int .i64 (k : Int))), (4, .v (.bool false)), (1, .v (.slice (some ad2) m cap2)), (0, .v (.slice (some ad) n cap))], []⟩ [] []).map (trims [5, 4, 1, 0])) =
  some [Leaf2.mk [] [fun _ => decide ((↑k : Int) < (↑n : Int)) = true,
    fun _ => (0 : Int) ≤ (↑k : Int) ∧ (↑k : Int) < (↑n : Int),
    fun _ => true = true, fun M => MCells (fun a => M a) (some (if Int.toNat (↑k : Int) * (1 : Nat) = (0 : Nat) then ad else Addr.mk ad.1 (ad.2 + Int.toNat (↑k : Int) * (1 : Nat)) none)) [Value.int IntKind.i64 x0],
    fun _ => (0 : Int) ≤ (↑k : Int) ∧ (↑k : Int) < (↑m : Int),
    fun _ => true = true, fun M => MCells (fun a => M a) (some (if Int.toNat (↑k : Int) * (1 : Nat) = (0 : Nat) then ad2 else Addr.mk ad2.1 (ad2.2 + Int.toNat (↑k : Int) * (1 : Nat)) none)) [Value.int IntKind.i64 x1],
    fun _ => (!x0 == x1) = false] (It.rnd [(0 : Nat), (0 : Nat), (1 : Nat), (0 : Nat), (1 : Nat), (1 : Nat)] (M + (1 : Nat)) :: kt) (St.mk [((5 : Nat), SV.v (Value.int IntKind.i64 (IntKind.wrap IntKind.i64 ((↑k : Int) + (1 : Int))))), ((4 : Nat), SV.v (Value.bool false)), ((1 : Nat), SV.v (Value.slice (some ad2) m cap2)), ((0 : Nat), SV.v (Value.slice (some ad) n cap))] [])]
  := by kernel_rfl

theorem sm41f (ad ad2 : Addr) (n cap m cap2 k M : Nat) (x0 x1 : Int) : (((xgo Try.prog X (bodyOf Try.f41) 26 K18 [] 60 [.t, .ld (.v (.int .i64 x0)), .ld (.v (.int .i64 x1)), .t] ((.nil)) [.at [0,0,1,0,1,1], .rnd [0,0,1,0,1,1] (M + 1), .blk 0, .at [1,1,1]] ⟨[(5, .v (.int .i64 (k : Int))), (4, .v (.bool false)), (1, .v (.slice (some ad2) m cap2)), (0, .v (.slice (some ad) n cap))], []⟩ [] []).bind (ends Try.prog Try.f41.results.toList)).bind plainE) =
  some [EndP.mk [] [fun _ => decide ((↑k : Int) < (↑n : Int)) = true,
    fun _ => (0 : Int) ≤ (↑k : Int) ∧ (↑k : Int) < (↑n : Int),
    fun _ => true = true, fun M => MCells (fun a => M a) (some (if Int.toNat (↑k : Int) * (1 : Nat) = (0 : Nat) then ad else Addr.mk ad.1 (ad.2 + Int.toNat (↑k : Int) * (1 : Nat)) none)) [Value.int IntKind.i64 x0],
    fun _ => (0 : Int) ≤ (↑k : Int) ∧ (↑k : Int) < (↑m : Int),
    fun _ => true = true, fun M => MCells (fun a => M a) (some (if Int.toNat (↑k : Int) * (1 : Nat) = (0 : Nat) then ad2 else Addr.mk ad2.1 (ad2.2 + Int.toNat (↑k : Int) * (1 : Nat)) none)) [Value.int IntKind.i64 x1],
    fun _ => (!x0 == x1) = true] (Res.v (Value.bool false))]
  := by kernel_rfl

theorem sm41E (oa ob : Option Addr) (n cap m cap2 k M : Nat) : (((xgo Try.prog X (bodyOf Try.f41) 26 K18 [] 60 [.f] ((.nil)) [.at [0,0,1,0,1,1], .rnd [0,0,1,0,1,1] (M + 1), .blk 0, .at [1,1,1]] ⟨[(5, .v (.int .i64 (k : Int))), (4, .v (.bool false)), (1, .v (.slice ob m cap2)), (0, .v (.slice oa n cap))], []⟩ [] []).bind (ends Try.prog Try.f41.results.toList)).bind plainE) =
  some [EndP.mk [] [fun _ => decide ((↑k : Int) < (↑n : Int)) = false] (Res.v (Value.bool true))]
  := by kernel_rfl

theorem sm41X (oa ob : Option Addr) (n cap m cap2 : Nat) : (((xgo Try.prog X (bodyOf Try.f41) 26 K18 [] 60 [.t] ((.nil)) [.at []] ⟨argsTm 0 [.slice oa n cap, .slice ob m cap2], []⟩ [] []).bind (ends Try.prog Try.f41.results.toList)).bind plainE) =
  some [EndP.mk [] [fun _ => (!(↑n : Int) == (↑m : Int)) = true] (Res.v (Value.bool false))]
  := by kernel_rfl

theorem sm41S (oa ob : Option Addr) (n cap m cap2 : Nat) : ((xgo Try.prog X (bodyOf Try.f41) 26 K18 [] 60 [.f] ((.nil)) [.at []] ⟨argsTm 0 [.slice oa n cap, .slice ob m cap2], []⟩ [] []).map (trims [5, 4, 1, 0])) =
  some [Leaf2.mk [] [fun _ => (!(↑n : Int) == (↑m : Int)) = false] [It.at [(0 : Nat), (1 : Nat), (0 : Nat), (1 : Nat), (1 : Nat)], It.blk (0 : Nat), It.at [(1 : Nat), (1 : Nat), (1 : Nat)]] (St.mk [((5 : Nat), SV.v (Value.int IntKind.i64 (0 : Int))), ((4 : Nat), SV.v (Value.bool false)), ((1 : Nat), SV.v (Value.slice ob m cap2)), ((0 : Nat), SV.v (Value.slice oa n cap))] [])]
  := by kernel_rfl

theorem sm36t (ad ad2 : Addr) (n cap m cap2 k M : Nat) (x0 y0 z0 t0 u0 v0 w0 x1 y1 z1 t1 u1 v1 w1 : Int) (kt : List It) : ((xgo Try.prog X (bodyOf Try.f36) 26 K18 [] 60 [.t, .ld (.agg [.v (.int .i64 x0), .v (.int .i64 y0), .v (.int .i64 z0), .v (.int .u64 t0), .v (.int .u64 u0), .v (.int .u64 v0), .v (.int .u64 w0)]), .ld (.agg [.v (.int .i64 x1), .v (.int .i64 y1), .v (.int .i64 z1), .v (.int .u64 t1), .v (.int .u64 u1), .v (.int .u64 v1), .v (.int .u64 w1)]), .f] ((.nil)) (.at [0,0,1,0,1,1] :: .rnd [0,0,1,0,1,1] (M + 1) :: kt) ⟨[(5, .v (.int .i64 (k : Int))), (4, .v (.bool false)), (1, .v (.slice (some ad2) m cap2)), (0, .v (.slice (some ad) n cap))], []⟩ [] []).map (trims [5, 4, 1, 0])) =
  some [Leaf2.mk [] [fun _ => decide ((↑k : Int) < (↑n : Int)) = true,
    fun _ => (0 : Int) ≤ (↑k : Int) ∧ (↑k : Int) < (↑n : Int),
    fun _ => true = true, fun M => MCells (fun a => M a) (some (if Int.toNat (↑k : Int) * (7 : Nat) = (0 : Nat) then ad else Addr.mk ad.1 (ad.2 + Int.toNat (↑k : Int) * (7 : Nat)) none)) [Value.int IntKind.i64 x0, Value.int IntKind.i64 y0, Value.int IntKind.i64 z0, Value.int IntKind.u64 t0, Value.int IntKind.u64 u0, Value.int IntKind.u64 v0, Value.int IntKind.u64 w0],
    fun _ => (0 : Int) ≤ (↑k : Int) ∧ (↑k : Int) < (↑m : Int),
    fun _ => true = true, fun M => MCells (fun a => M a) (some (if Int.toNat (↑k : Int) * (7 : Nat) = (0 : Nat) then ad2 else Addr.mk ad2.1 (ad2.2 + Int.toNat (↑k : Int) * (7 : Nat)) none)) [Value.int IntKind.i64 x1, Value.int IntKind.i64 y1, Value.int IntKind.i64 z1, Value.int IntKind.u64 t1, Value.int IntKind.u64 u1, Value.int IntKind.u64 v1, Value.int IntKind.u64 w1],
    fun _ => (!decide ([x0, y0, z0, t0, u0, v0, w0] = [x1, y1, z1, t1, u1, v1, w1])) = false] (It.rnd [(0 : Nat), (0 : Nat), (1 : Nat), (0 : Nat), (1 : Nat), (1 : Nat)] (M + (1 : Nat)) :: kt) (St.mk [((5 : Nat), SV.v (Value.int IntKind.i64 (IntKind.wrap IntKind.i64 ((↑k : Int) + (1 : Int))))), ((4 : Nat), SV.v (Value.bool false)), ((1 : Nat), SV.v (Value.slice (some ad2) m cap2)), ((0 : Nat), SV.v (Value.slice (some ad) n cap))] [])]
  := by kernel_rfl

theorem sm36f (ad ad2 : Addr) (n cap m cap2 k M : Nat) (x0 y0 z0 t0 u0 v0 w0 x1 y1 z1 t1 u1 v1 w1 : Int) : (((xgo Try.prog X (bodyOf Try.f36) 26 K18 [] 60 [.t, .ld (.agg [.v (.int .i64 x0), .v (.int .i64 y0), .v (.int .i64 z0), .v (.int .u64 t0), .v (.int .u64 u0), .v (.int .u64 v0), .v (.int .u64 w0)]), .ld (.agg [.v (.int .i64 x1), .v (.int .i64 y1), .v (.int .i64 z1), .v (.int .u64 t1), .v (.int .u64 u1), .v (.int .u64 v1), .v (.int .u64 w1)]), .t] ((.nil)) [.at [0,0,1,0,1,1], .rnd [0,0,1,0,1,1] (M + 1), .blk 0, .at [1,1,1]] ⟨[(5, .v (.int .i64 (k : Int))), (4, .v (.bool false)), (1, .v (.slice (some ad2) m cap2)), (0, .v (.slice (some ad) n cap))], []⟩ [] []).bind (ends Try.prog Try.f36.results.toList)).bind plainE) =
  some [EndP.mk [] [fun _ => decide ((↑k : Int) < (↑n : Int)) = true,
    fun _ => (0 : Int) ≤ (↑k : Int) ∧ (↑k : Int) < (↑n : Int),
    fun _ => true = true, fun M => MCells (fun a => M a) (some (if Int.toNat (↑k : Int) * (7 : Nat) = (0 : Nat) then ad else Addr.mk ad.1 (ad.2 + Int.toNat (↑k : Int) * (7 : Nat)) none)) [Value.int IntKind.i64 x0, Value.int IntKind.i64 y0, Value.int IntKind.i64 z0, Value.int IntKind.u64 t0, Value.int IntKind.u64 u0, Value.int IntKind.u64 v0, Value.int IntKind.u64 w0],
    fun _ => (0 : Int) ≤ (↑k : Int) ∧ (↑k : Int) < (↑m : Int),
    fun _ => true = true, fun M => MCells (fun a => M a) (some (if Int.toNat (↑k : Int) * (7 : Nat) = (0 : Nat) then ad2 else Addr.mk ad2.1 (ad2.2 + Int.toNat (↑k : Int) * (7 : Nat)) none)) [Value.int IntKind.i64 x1, Value.int IntKind.i64 y1, Value.int IntKind.i64 z1, Value.int IntKind.u64 t1, Value.int IntKind.u64 u1, Value.int IntKind.u64 v1, Value.int IntKind.u64 w1],
    fun _ => (!decide ([x0, y0, z0, t0, u0, v0, w0] = [x1, y1, z1, t1, u1, v1, w1])) = true] (Res.v (Value.bool false))]
  := by kernel_rfl

theorem sm36E (oa ob : Option Addr) (n cap m cap2 k M : Nat) : (((xgo Try.prog X (bodyOf Try.f36) 26 K18 [] 60 [.f] ((.nil)) [.at [0,0,1,0,1,1], .rnd [0,0,1,0,1,1] (M + 1), .blk 0, .at [1,1,1]] ⟨[(5, .v (.int .i64 (k : Int))), (4, .v (.bool false)), (1, .v (.slice ob m cap2)), (0, .v (.slice oa n cap))], []⟩ [] []).bind (ends Try.prog Try.f36.results.toList)).bind plainE) =
  some [EndP.mk [] [fun _ => decide ((↑k : Int) < (↑n : Int)) = false] (Res.v (Value.bool true))]
  := by kernel_rfl

theorem sm36X (oa ob : Option Addr) (n cap m cap2 : Nat) : (((xgo Try.prog X (bodyOf Try.f36) 26 K18 [] 60 [.t] ((.nil)) [.at []] ⟨argsTm 0 [.slice oa n cap, .slice ob m cap2], []⟩ [] []).bind (ends Try.prog Try.f36.results.toList)).bind plainE) =
  some [EndP.mk [] [fun _ => (!(↑n : Int) == (↑m : Int)) = true] (Res.v (Value.bool false))]
  := by kernel_rfl

theorem sm36S (oa ob : Option Addr) (n cap m cap2 : Nat) : ((xgo Try.prog X (bodyOf Try.f36) 26 K18 [] 60 [.f] ((.nil)) [.at []] ⟨argsTm 0 [.slice oa n cap, .slice ob m cap2], []⟩ [] []).map (trims [5, 4, 1, 0])) =
  some [Leaf2.mk [] [fun _ => (!(↑n : Int) == (↑m : Int)) = false] [It.at [(0 : Nat), (1 : Nat), (0 : Nat), (1 : Nat), (1 : Nat)], It.blk (0 : Nat), It.at [(1 : Nat), (1 : Nat), (1 : Nat)]] (St.mk [((5 : Nat), SV.v (Value.int IntKind.i64 (0 : Int))), ((4 : Nat), SV.v (Value.bool false)), ((1 : Nat), SV.v (Value.slice ob m cap2)), ((0 : Nat), SV.v (Value.slice oa n cap))] [])]
  := by kernel_rfl

theorem sm37t (ad ad2 : Addr) (n cap m cap2 k M : Nat) (x0 y0 z0 x1 y1 z1 : Int) (kt : List It) : ((xgo Try.prog X (bodyOf Try.f37) 26 K18 [] 60 [.t, .ld (.agg [.v (.int .i64 x0), .v (.int .i64 y0), .v (.int .i64 z0)]), .ld (.agg [.v (.int .i64 x1), .v (.int .i64 y1), .v (.int .i64 z1)]), .f] ((.nil)) (.at [0,0,1,0,1,1] :: .rnd [0,0,1,0,1,1] (M + 1) :: kt) ⟨[(5, .v (.int .i64 (k : Int))), (4, .v (.bool false)), (1, .v (.slice (some ad2) m cap2)), (0, .v (.slice (some ad) n cap))], []⟩ [] []).map (trims [5, 4, 1, 0])) =
  some [Leaf2.mk [] [fun _ => decide ((↑k : Int) < (↑n : Int)) = true,
    fun _ => (0 : Int) ≤ (↑k : Int) ∧ (↑k : Int) < (↑n : Int),
    fun _ => true = true, fun M => MCells (fun a => M a) (some (if Int.toNat (↑k : Int) * (3 : Nat) = (0 : Nat) then ad else Addr.mk ad.1 (ad.2 + Int.toNat (↑k : Int) * (3 : Nat)) none)) [Value.int IntKind.i64 x0, Value.int IntKind.i64 y0, Value.int IntKind.i64 z0],
    fun _ => (0 : Int) ≤ (↑k : Int) ∧ (↑k : Int) < (↑m : Int),
    fun _ => true = true, fun M => MCells (fun a => M a) (some (if Int.toNat (↑k : Int) * (3 : Nat) = (0 : Nat) then ad2 else Addr.mk ad2.1 (ad2.2 + Int.toNat (↑k : Int) * (3 : Nat)) none)) [Value.int IntKind.i64 x1, Value.int IntKind.i64 y1, Value.int IntKind.i64 z1],
    fun _ => (!decide ([x0, y0, z0] = [x1, y1, z1])) = false] (It.rnd [(0 : Nat), (0 : Nat), (1 : Nat), (0 : Nat), (1 : Nat), (1 : Nat)] (M + (1 : Nat)) :: kt) (St.mk [((5 : Nat), SV.v (Value.int IntKind.i64 (IntKind.wrap IntKind.i64 ((↑k : Int) + (1 : Int))))), ((4 : Nat), SV.v (Value.bool false)), ((1 : Nat), SV.v (Value.slice (some ad2) m cap2)), ((0 : Nat), SV.v (Value.slice (some ad) n cap))] [])]
  := by kernel_rfl

theorem sm37f (ad ad2 : Addr) (n cap m cap2 k M : Nat) (x0 y0 z0 x1 y1 z1 : Int) : (((xgo Try.prog X (bodyOf Try.f37) 26 K18 [] 60 [.t, .ld (.agg [.v (.int .i64 x0), .v (.int .i64 y0), .v (.int .i64 z0)]), .ld (.agg [.v (.int .i64 x1), .v (.int .i64 y1), .v (.int .i64 z1)]), .t] ((.nil)) [.at [0,0,1,0,1,1], .rnd [0,0,1,0,1,1] (M + 1), .blk 0, .at [1,1,1]] ⟨[(5, .v (.int .i64 (k : Int))), (4, .v (.bool false)), (1, .v (.slice (some ad2) m cap2)), (0, .v (.slice (some ad) n cap))], []⟩ [] []).bind (ends Try.prog Try.f37.results.toList)).bind plainE) =
  some [EndP.mk [] [fun _ => decide ((↑k : Int) < (↑n : Int)) = true,
    fun _ => (0 : Int) ≤ (↑k : Int) ∧ (↑k : Int) < (↑n : Int),
    fun _ => true = true, fun M => MCells (fun a => M a) (some (if Int.toNat (↑k : Int) * (3 : Nat) = (0 : Nat) then ad else Addr.mk ad.1 (ad.2 + Int.toNat (↑k : Int) * (3 : Nat)) none)) [Value.int IntKind.i64 x0, Value.int IntKind.i64 y0, Value.int IntKind.i64 z0],
    fun _ => (0 : Int) ≤ (↑k : Int) ∧ (↑k : Int) < (↑m : Int),
    fun _ => true = true, fun M => MCells (fun a => M a) (some (if Int.toNat (↑k : Int) * (3 : Nat) = (0 : Nat) then ad2 else Addr.mk ad2.1 (ad2.2 + Int.toNat (↑k : Int) * (3 : Nat)) none)) [Value.int IntKind.i64 x1, Value.int IntKind.i64 y1, Value.int IntKind.i64 z1],
    fun _ => (!decide ([x0, y0, z0] = [x1, y1, z1])) = true] (Res.v (Value.bool false))]
  := by kernel_rfl

theorem sm37E (oa ob : Option Addr) (n cap m cap2 k M : Nat) : (((xgo Try.prog X (bodyOf Try.f37) 26 K18 [] 60 [.f] ((.nil)) [.at [0,0,1,0,1,1], .rnd [0,0,1,0,1,1] (M + 1), .blk 0, .at [1,1,1]] ⟨[(5, .v (.int .i64 (k : Int))), (4, .v (.bool false)), (1, .v (.slice ob m cap2)), (0, .v (.slice oa n cap))], []⟩ [] []).bind (ends Try.prog Try.f37.results.toList)).bind plainE) =
  some [EndP.mk [] [fun _ => decide ((↑k : Int) < (↑n : Int)) = false] (Res.v (Value.bool true))]
  := by kernel_rfl

theorem sm37X (oa ob : Option Addr) (n cap m cap2 : Nat) : (((xgo Try.prog X (bodyOf Try.f37) 26 K18 [] 60 [.t] ((.nil)) [.at []] ⟨argsTm 0 [.slice oa n cap, .slice ob m cap2], []⟩ [] []).bind (ends Try.prog Try.f37.results.toList)).bind plainE) =
  some [EndP.mk [] [fun _ => (!(↑n : Int) == (↑m : Int)) = true] (Res.v (Value.bool false))]
  := by kernel_rfl

theorem sm37S (oa ob : Option Addr) (n cap m cap2 : Nat) : ((xgo Try.prog X (bodyOf Try.f37) 26 K18 [] 60 [.f] ((.nil)) [.at []] ⟨argsTm 0 [.slice oa n cap, .slice ob m cap2], []⟩ [] []).map (trims [5, 4, 1, 0])) =
  some [Leaf2.mk [] [fun _ => (!(↑n : Int) == (↑m : Int)) = false] [It.at [(0 : Nat), (1 : Nat), (0 : Nat), (1 : Nat), (1 : Nat)], It.blk (0 : Nat), It.at [(1 : Nat), (1 : Nat), (1 : Nat)]] (St.mk [((5 : Nat), SV.v (Value.int IntKind.i64 (0 : Int))), ((4 : Nat), SV.v (Value.bool false)), ((1 : Nat), SV.v (Value.slice ob m cap2)), ((0 : Nat), SV.v (Value.slice oa n cap))] [])]
  := by kernel_rfl

theorem cpN (oa : Option Addr) (n cap : Nat) (l : List Nd) : (((xgo Try.prog X (bodyOf Try.f22) 9 K18 [] 60 [.lx (nodesC l)] ((.nil)) [.at []] ⟨argsTm 0 [.slice oa n cap], []⟩ [] []).bind (ends Try.prog Try.f22.results.toList)).bind plainE) =
  some [EndP.mk [] [fun _ => ((0 : Nat) + n) * (56 : Nat) ≤ (140737488355328 : Nat) ∧ (0 : Nat) + n ≤ (140737488355328 : Nat), fun M => List.length (nodesC l) = n * (7 : Nat) ∧ (∀ (u : Value), u ∈ nodesC l → (match u with | Value.agg cells => false | Value.tuple vs => false | x => true) = true) ∧ (n = (0 : Nat) ∧ oa = none ∨ MCells (fun a => M a) oa (nodesC l)),
    fun _ => [] ++ mapv (nodesC l) = mapv (unv ([] ++ mapv (nodesC l)))] (Res.r (43 : Nat) (7 : Nat) ((0 : Nat) + n) (unv ([] ++ mapv (nodesC l))))]
  := by kernel_rfl

theorem cop_ok (oa : Option Addr) (n cap : Nat) (all : List Nd) (hn : all.length = n) (hb : n ≤ 2000000000000) (w : World) (ha : nodesC all = [] ∨ MCells (wmem w) oa (nodesC all)) :
    Calls Try.prog 22 [.slice oa n cap].toArray w (fun E w' => ∃ v, E = .returned v ∧ Res.ok w w' (.r 43 7 n (nodesC all)) v ∧ Below w.heap.size w w') := by
  have hM0 : ∀ M, F0 w M → n = 0 ∧ oa = none ∨ MCells (fun a => M a) oa (nodesC all) := fun M hM => by
    cases oa with
    | none =>
      rcases ha with h | ⟨_, h, _⟩
      · have h0 : all.length * 7 = 0 := by rw [← nodesC_length, h]; rfl
        exact .inl ⟨by omega, rfl⟩
      · cases h
    | some ad =>
      rcases ha with h | h
      · exact .inr ⟨ad, rfl, fun j v hj => by rw [h] at hj; cases hj⟩
      · exact .inr (h.mono hM)
  refine con_end (calls_plain hm Try.func22 (by kernel_rfl) rfl rfl 60 _ _ (cpN oa n cap all) ⟨fun _ => ⟨?_, ?_⟩, trivial⟩)
  · simp only [hold_cons, hold_nil, and_true, List.nil_append, unv_mapv']
    exact ⟨fun _ _ => ⟨by omega, by omega⟩, fun M hM => ⟨by rw [nodesC_length, hn], nodes_flat all, hM0 M hM⟩, fun _ _ => trivial⟩
  · rw [List.nil_append, unv_mapv', Nat.zero_add]
noncomputable def gCop : List RV → Option (Res × Prop)
  | [.r n cs] => some (.r 43 7 n cs, cs = nodesC (unNds cs) ∧ (unNds cs).length = n ∧ n ≤ 2000000000000)
  | _ => none
theorem gCop_ok (rvs : List RV) (r : Res) (p : Prop) (vs : List Value) (w : World) (hg : gCop rvs = some (r, p)) (hp : p) (hv : RVs (wmem w) rvs vs) : Calls Try.prog 22 vs.toArray w (fun E w' => ∃ v, E = .returned v ∧ r.ok w w' v ∧ Below w.heap.size w w') := by
  unfold gCop at hg
  split at hg
  · rename_i n cs
    simp only [Option.some.injEq, Prod.mk.injEq] at hg
    obtain ⟨rfl, rfl⟩ := hg
    obtain ⟨hc, hn, hb⟩ := hp
    match vs, hv with
    | [x], ⟨⟨oa, cap, h1, h2⟩, _⟩ =>
      rw [h1]
      have := cop_ok oa _ cap _ hn hb w (by rw [← hc]; exact h2)
      rw [← hc] at this
      exact this
  · cases hg
noncomputable def K19a : Con Try.prog := K18.add 22 gCop gCop_ok
noncomputable def stE41 (oa ob : Option Addr) (n cap m cap2 k : Nat) : St := ⟨[(5, .v (.int .i64 (k : Int))), (4, .v (.bool false)), (1, .v (.slice ob m cap2)), (0, .v (.slice oa n cap))], []⟩
theorem sm41_loop {w : World} (oa ob : Option Addr) (n cap m cap2 : Nat) (A B : List Int) (hn : A.length = n) (hmm : B.length = m) (hbd : n ≤ 4611686018427387903) (ha : intsC A = [] ∨ MCells (wmem w) oa (intsC A)) (hb : intsC B = [] ∨ MCells (wmem w) ob (intsC B)) (R : Res → Prop) :
    ∀ (l la pa pb : List Int), A = pa ++ la → B = pb ++ l → pa.length = pb.length → la.length = l.length → R (.v (.bool (eqB la l))) →
    Ok Try.prog (bodyOf Try.f41) 26 (F0 w) w (bodyPost Try.prog Try.f41 fun E w' => ∃ v r, E = .returned v ∧ R r ∧ r.ok w w' v ∧ Below w.heap.size w w') (.rnd [0,0,1,0,1,1] (l.length + 2) :: [.blk 0, .at [1,1,1]]) (stE41 oa ob n cap m cap2 pa.length)
  | [], la, pa, pb, heA, heB, hpp, hll, hR => by
    have hl : pa.length = n := by rw [← hn, heA]; simp [hll]
    have h0 : la = [] := List.eq_nil_of_length_eq_zero (by rw [hll]; rfl)
    rw [h0, eqB_true rfl] at hR
    refine Ok.rnd (ok_plain hm (F0.mono w) (fun _ h => h) 60 _ _ _ _ (sm41E oa ob n cap m cap2 pa.length 0) ⟨fun _ => ⟨?_, hR⟩, trivial⟩)
    simp only [hold_cons, hold_nil, and_true]
    exact fun _ _ => decide_eq_false (by omega)
  | y :: l, la0, pa, pb, heA, heB, hpp, hll, hR => by
    obtain ⟨x, la, rfl⟩ : ∃ x la, la0 = x :: la := by
      cases la0 with
      | nil => simp at hll
      | cons x la => exact ⟨x, la, rfl⟩
    have hla : la.length = l.length := by simpa using hll
    have hl : pa.length + (la.length + 1) = n := by rw [← hn, heA]; simp
    have hl2 : pb.length + (l.length + 1) = m := by rw [← hmm, heB]; simp
    obtain ⟨ad, rfl, ca⟩ : MCells (wmem w) oa (intsC A) := by
      rcases ha with h | h
      · rw [heA] at h; simp [intsC] at h
      · exact h
    obtain ⟨ad2, rfl, cb⟩ : MCells (wmem w) ob (intsC B) := by
      rcases hb with h | h
      · rw [heB] at h; simp [intsC] at h
      · exact h
    have hx := ints_at pa la x (by rw [← heA]; exact ⟨ad, rfl, ca⟩)
    have hx2 := ints_at pb l y (by rw [← heB]; exact ⟨ad2, rfl, cb⟩)
    rw [← hpp] at hx2
    have hlen : (pa ++ [x]).length = pa.length + 1 := by simp
    by_cases hs : x = y
    · have next := sm41_loop (w := w) (some ad) (some ad2) n cap m cap2 A B hn hmm hbd ha hb R l la (pa ++ [x]) (pb ++ [y]) (by rw [heA]; simp) (by rw [heB]; simp) (by simp [hpp]) hla (by rw [← eqB_cons x y la l (hs)]; exact hR)
      rw [hlen] at next
      refine Ok.rnd (xgo_trim hm (F0.mono w) finB 60 _ _ _ _ _ _ (sm41t ad ad2 n cap m cap2 pa.length (l.length + 1) x y _) (paidCons (fun _ => ⟨?_, ?_⟩) paidNil))
      · simp only [hold_cons, hold_nil, and_true]
        exact ⟨fun _ _ => decide_eq_true (by omega), fun _ _ => ⟨by omega, by omega⟩, fun _ _ => trivial, hold_cells hx, fun _ _ => ⟨by omega, by omega⟩, fun _ _ => trivial, hold_cells hx2, fun _ _ => by rw [beq_iff_eq.2 hs]; rfl⟩
      · simp only [wrap_inc pa.length (by omega)]
        exact ok_mono rfl next
    · rw [eqB_false (by intro h; exact hs (by rw [(List.cons.inj h).1]))] at hR
      refine Ok.rnd (ok_plain hm (F0.mono w) (fun _ h => h) 60 _ _ _ _ (sm41f ad ad2 n cap m cap2 pa.length (l.length + 1) x y) ⟨fun _ => ⟨?_, hR⟩, trivial⟩)
      simp only [hold_cons, hold_nil, and_true]
      exact ⟨fun _ _ => decide_eq_true (by omega), fun _ _ => ⟨by omega, by omega⟩, fun _ _ => trivial, hold_cells hx, fun _ _ => ⟨by omega, by omega⟩, fun _ _ => trivial, hold_cells hx2, fun _ _ => by rw [beq_eq_false_iff_ne.2 hs]; rfl⟩
theorem sm41_ok (oa ob : Option Addr) (n cap m cap2 : Nat) (A B : List Int) (hn : A.length = n) (hmm : B.length = m) (hbd : n ≤ 4611686018427387903) (w : World) (ha : intsC A = [] ∨ MCells (wmem w) oa (intsC A)) (hb : intsC B = [] ∨ MCells (wmem w) ob (intsC B)) :
    Calls Try.prog 41 [.slice oa n cap, .slice ob m cap2].toArray w (fun E w' => ∃ v, E = .returned v ∧ Res.ok w w' (.v (.bool (eqB A B))) v ∧ Below w.heap.size w w') := by
  by_cases hnm : n = m
  · refine con_end (calls_of_ok (B := bodyOf Try.f41) (n := 26) Try.func41 (by kernel_rfl) rfl rfl (F := F0 w) (fun _ _ h => h) ?_)
    refine xgo_trim hm (F0.mono w) finB 60 _ _ _ _ _ _ (sm41S oa ob n cap m cap2) (paidCons (fun _ => ⟨?_, ?_⟩) paidNil)
    · simp only [hold_cons, hold_nil, and_true]
      exact fun _ _ => by rw [hnm]; simp
    · exact ok_mono (st := stE41 oa ob n cap m cap2 0) rfl (Ok.loop (B.length + 2) (by kernel_rfl) (sm41_loop oa ob n cap m cap2 A B hn hmm hbd ha hb (fun r => r = .v (.bool (eqB A B))) B A [] [] rfl rfl rfl (by omega) rfl))
  · rw [eqB_false (by intro h; rw [h] at hn; omega)]
    refine con_end (calls_plain hm Try.func41 (by kernel_rfl) rfl rfl 60 _ _ (sm41X oa ob n cap m cap2) ⟨fun _ => ⟨?_, rfl⟩, trivial⟩)
    simp only [hold_cons, hold_nil, and_true]
    exact fun _ _ => by
      rw [beq_eq_false_iff_ne.2 (by omega)]; rfl
noncomputable def gSm41 : List RV → Option (Res × Prop)
  | [.r n cs, .r m ds] => some (.v (.bool (siB cs ds)), cs = intsC (unIs cs) ∧ (unIs cs).length = n ∧ n ≤ 4611686018427387903 ∧ ds = intsC (unIs ds) ∧ (unIs ds).length = m)
  | _ => none
theorem gSm41_ok (rvs : List RV) (r : Res) (p : Prop) (vs : List Value) (w : World) (hg : gSm41 rvs = some (r, p)) (hp : p) (hv : RVs (wmem w) rvs vs) : Calls Try.prog 41 vs.toArray w (fun E w' => ∃ v, E = .returned v ∧ r.ok w w' v ∧ Below w.heap.size w w') := by
  unfold gSm41 at hg
  split at hg
  · simp only [Option.some.injEq, Prod.mk.injEq] at hg
    obtain ⟨rfl, rfl⟩ := hg
    obtain ⟨hc, hn, hb, hd, hmm⟩ := hp
    match vs, hv with
    | [x, y], ⟨⟨oa, cap, h1, h2⟩, ⟨ob, cap2, h3, h4⟩, _⟩ =>
      rw [h1, h3, siB, hidQ_eq]
      rw [hc] at h2
      rw [hd] at h4
      exact sm41_ok oa ob _ cap _ cap2 _ _ hn hmm hb w h2 h4
  · cases hg
noncomputable def stE36 (oa ob : Option Addr) (n cap m cap2 k : Nat) : St := ⟨[(5, .v (.int .i64 (k : Int))), (4, .v (.bool false)), (1, .v (.slice ob m cap2)), (0, .v (.slice oa n cap))], []⟩
theorem sm36_loop {w : World} (oa ob : Option Addr) (n cap m cap2 : Nat) (A B : List Nd) (hn : A.length = n) (hmm : B.length = m) (hbd : n ≤ 4611686018427387903) (hwa : ∀ x ∈ A, x.v < top) (hwb : ∀ x ∈ B, x.v < top) (ha : nodesC A = [] ∨ MCells (wmem w) oa (nodesC A)) (hb : nodesC B = [] ∨ MCells (wmem w) ob (nodesC B)) (R : Res → Prop) :
    ∀ (l la pa pb : List Nd), A = pa ++ la → B = pb ++ l → pa.length = pb.length → la.length = l.length → R (.v (.bool (eqB la l))) →
    Ok Try.prog (bodyOf Try.f36) 26 (F0 w) w (bodyPost Try.prog Try.f36 fun E w' => ∃ v r, E = .returned v ∧ R r ∧ r.ok w w' v ∧ Below w.heap.size w w') (.rnd [0,0,1,0,1,1] (l.length + 2) :: [.blk 0, .at [1,1,1]]) (stE36 oa ob n cap m cap2 pa.length)
  | [], la, pa, pb, heA, heB, hpp, hll, hR => by
    have hl : pa.length = n := by rw [← hn, heA]; simp [hll]
    have h0 : la = [] := List.eq_nil_of_length_eq_zero (by rw [hll]; rfl)
    rw [h0, eqB_true rfl] at hR
    refine Ok.rnd (ok_plain hm (F0.mono w) (fun _ h => h) 60 _ _ _ _ (sm36E oa ob n cap m cap2 pa.length 0) ⟨fun _ => ⟨?_, hR⟩, trivial⟩)
    simp only [hold_cons, hold_nil, and_true]
    exact fun _ _ => decide_eq_false (by omega)
  | y :: l, la0, pa, pb, heA, heB, hpp, hll, hR => by
    obtain ⟨x, la, rfl⟩ : ∃ x la, la0 = x :: la := by
      cases la0 with
      | nil => simp at hll
      | cons x la => exact ⟨x, la, rfl⟩
    have hla : la.length = l.length := by simpa using hll
    have hl : pa.length + (la.length + 1) = n := by rw [← hn, heA]; simp
    have hl2 : pb.length + (l.length + 1) = m := by rw [← hmm, heB]; simp
    obtain ⟨ad, rfl, ca⟩ : MCells (wmem w) oa (nodesC A) := by
      rcases ha with h | h
      · rw [heA] at h; rw [nodesC_append, nodesC_cons] at h; simp [ndC] at h
      · exact h
    obtain ⟨ad2, rfl, cb⟩ : MCells (wmem w) ob (nodesC B) := by
      rcases hb with h | h
      · rw [heB] at h; rw [nodesC_append, nodesC_cons] at h; simp [ndC] at h
      · exact h
    have hx := nodes_at pa la x (by rw [← heA]; exact ⟨ad, rfl, ca⟩)
    have hx2 := nodes_at pb l y (by rw [← heB]; exact ⟨ad2, rfl, cb⟩)
    rw [← hpp] at hx2
    have hlen : (pa ++ [x]).length = pa.length + 1 := by simp
    by_cases hs : [x.op, x.a, x.b, (limb x.v 0 : Nat), (limb x.v 1 : Nat), (limb x.v 2 : Nat), (limb x.v 3 : Nat)] = ([y.op, y.a, y.b, (limb y.v 0 : Nat), (limb y.v 1 : Nat), (limb y.v 2 : Nat), (limb y.v 3 : Nat)] : List Int)
    · have next := sm36_loop (w := w) (some ad) (some ad2) n cap m cap2 A B hn hmm hbd hwa hwb ha hb R l la (pa ++ [x]) (pb ++ [y]) (by rw [heA]; simp) (by rw [heB]; simp) (by simp [hpp]) hla (by rw [← eqB_cons x y la l (nd_inj (hwa x (by rw [heA]; simp)) (hwb y (by rw [heB]; simp)) hs)]; exact hR)
      rw [hlen] at next
      refine Ok.rnd (xgo_trim hm (F0.mono w) finB 60 _ _ _ _ _ _ (sm36t ad ad2 n cap m cap2 pa.length (l.length + 1) x.op x.a x.b (limb x.v 0 : Nat) (limb x.v 1 : Nat) (limb x.v 2 : Nat) (limb x.v 3 : Nat) y.op y.a y.b (limb y.v 0 : Nat) (limb y.v 1 : Nat) (limb y.v 2 : Nat) (limb y.v 3 : Nat) _) (paidCons (fun _ => ⟨?_, ?_⟩) paidNil))
      · simp only [hold_cons, hold_nil, and_true]
        exact ⟨fun _ _ => decide_eq_true (by omega), fun _ _ => ⟨by omega, by omega⟩, fun _ _ => trivial, hold_cells hx, fun _ _ => ⟨by omega, by omega⟩, fun _ _ => trivial, hold_cells hx2, fun _ _ => by rw [decide_eq_true hs]; rfl⟩
      · simp only [wrap_inc pa.length (by omega)]
        exact ok_mono rfl next
    · rw [eqB_false (by intro h; exact hs (by rw [(List.cons.inj h).1]))] at hR
      refine Ok.rnd (ok_plain hm (F0.mono w) (fun _ h => h) 60 _ _ _ _ (sm36f ad ad2 n cap m cap2 pa.length (l.length + 1) x.op x.a x.b (limb x.v 0 : Nat) (limb x.v 1 : Nat) (limb x.v 2 : Nat) (limb x.v 3 : Nat) y.op y.a y.b (limb y.v 0 : Nat) (limb y.v 1 : Nat) (limb y.v 2 : Nat) (limb y.v 3 : Nat)) ⟨fun _ => ⟨?_, hR⟩, trivial⟩)
      simp only [hold_cons, hold_nil, and_true]
      exact ⟨fun _ _ => decide_eq_true (by omega), fun _ _ => ⟨by omega, by omega⟩, fun _ _ => trivial, hold_cells hx, fun _ _ => ⟨by omega, by omega⟩, fun _ _ => trivial, hold_cells hx2, fun _ _ => by rw [decide_eq_false hs]; rfl⟩
theorem sm36_ok (oa ob : Option Addr) (n cap m cap2 : Nat) (A B : List Nd) (hn : A.length = n) (hmm : B.length = m) (hbd : n ≤ 4611686018427387903) (hwa : ∀ x ∈ A, x.v < top) (hwb : ∀ x ∈ B, x.v < top) (w : World) (ha : nodesC A = [] ∨ MCells (wmem w) oa (nodesC A)) (hb : nodesC B = [] ∨ MCells (wmem w) ob (nodesC B)) :
    Calls Try.prog 36 [.slice oa n cap, .slice ob m cap2].toArray w (fun E w' => ∃ v, E = .returned v ∧ Res.ok w w' (.v (.bool (eqB A B))) v ∧ Below w.heap.size w w') := by
  by_cases hnm : n = m
  · refine con_end (calls_of_ok (B := bodyOf Try.f36) (n := 26) Try.func36 (by kernel_rfl) rfl rfl (F := F0 w) (fun _ _ h => h) ?_)
    refine xgo_trim hm (F0.mono w) finB 60 _ _ _ _ _ _ (sm36S oa ob n cap m cap2) (paidCons (fun _ => ⟨?_, ?_⟩) paidNil)
    · simp only [hold_cons, hold_nil, and_true]
      exact fun _ _ => by rw [hnm]; simp
    · exact ok_mono (st := stE36 oa ob n cap m cap2 0) rfl (Ok.loop (B.length + 2) (by kernel_rfl) (sm36_loop oa ob n cap m cap2 A B hn hmm hbd hwa hwb ha hb (fun r => r = .v (.bool (eqB A B))) B A [] [] rfl rfl rfl (by omega) rfl))
  · rw [eqB_false (by intro h; rw [h] at hn; omega)]
    refine con_end (calls_plain hm Try.func36 (by kernel_rfl) rfl rfl 60 _ _ (sm36X oa ob n cap m cap2) ⟨fun _ => ⟨?_, rfl⟩, trivial⟩)
    simp only [hold_cons, hold_nil, and_true]
    exact fun _ _ => by
      rw [beq_eq_false_iff_ne.2 (by omega)]; rfl
noncomputable def gSm36 : List RV → Option (Res × Prop)
  | [.r n cs, .r m ds] => some (.v (.bool (snB cs ds)), cs = nodesC (unNds cs) ∧ (unNds cs).length = n ∧ n ≤ 4611686018427387903 ∧ ds = nodesC (unNds ds) ∧ (unNds ds).length = m ∧ (∀ x ∈ unNds cs, x.v < top) ∧ (∀ x ∈ unNds ds, x.v < top))
  | _ => none
theorem gSm36_ok (rvs : List RV) (r : Res) (p : Prop) (vs : List Value) (w : World) (hg : gSm36 rvs = some (r, p)) (hp : p) (hv : RVs (wmem w) rvs vs) : Calls Try.prog 36 vs.toArray w (fun E w' => ∃ v, E = .returned v ∧ r.ok w w' v ∧ Below w.heap.size w w') := by
  unfold gSm36 at hg
  split at hg
  · simp only [Option.some.injEq, Prod.mk.injEq] at hg
    obtain ⟨rfl, rfl⟩ := hg
    obtain ⟨hc, hn, hb, hd, hmm, hwa, hwb⟩ := hp
    match vs, hv with
    | [x, y], ⟨⟨oa, cap, h1, h2⟩, ⟨ob, cap2, h3, h4⟩, _⟩ =>
      rw [h1, h3, snB, hidQ_eq]
      rw [hc] at h2
      rw [hd] at h4
      exact sm36_ok oa ob _ cap _ cap2 _ _ hn hmm hb hwa hwb w h2 h4
  · cases hg
noncomputable def stE37 (oa ob : Option Addr) (n cap m cap2 k : Nat) : St := ⟨[(5, .v (.int .i64 (k : Int))), (4, .v (.bool false)), (1, .v (.slice ob m cap2)), (0, .v (.slice oa n cap))], []⟩
theorem sm37_loop {w : World} (oa ob : Option Addr) (n cap m cap2 : Nat) (A B : List Qy) (hn : A.length = n) (hmm : B.length = m) (hbd : n ≤ 4611686018427387903) (ha : qsC A = [] ∨ MCells (wmem w) oa (qsC A)) (hb : qsC B = [] ∨ MCells (wmem w) ob (qsC B)) (R : Res → Prop) :
    ∀ (l la pa pb : List Qy), A = pa ++ la → B = pb ++ l → pa.length = pb.length → la.length = l.length → R (.v (.bool (eqB la l))) →
    Ok Try.prog (bodyOf Try.f37) 26 (F0 w) w (bodyPost Try.prog Try.f37 fun E w' => ∃ v r, E = .returned v ∧ R r ∧ r.ok w w' v ∧ Below w.heap.size w w') (.rnd [0,0,1,0,1,1] (l.length + 2) :: [.blk 0, .at [1,1,1]]) (stE37 oa ob n cap m cap2 pa.length)
  | [], la, pa, pb, heA, heB, hpp, hll, hR => by
    have hl : pa.length = n := by rw [← hn, heA]; simp [hll]
    have h0 : la = [] := List.eq_nil_of_length_eq_zero (by rw [hll]; rfl)
    rw [h0, eqB_true rfl] at hR
    refine Ok.rnd (ok_plain hm (F0.mono w) (fun _ h => h) 60 _ _ _ _ (sm37E oa ob n cap m cap2 pa.length 0) ⟨fun _ => ⟨?_, hR⟩, trivial⟩)
    simp only [hold_cons, hold_nil, and_true]
    exact fun _ _ => decide_eq_false (by omega)
  | y :: l, la0, pa, pb, heA, heB, hpp, hll, hR => by
    obtain ⟨x, la, rfl⟩ : ∃ x la, la0 = x :: la := by
      cases la0 with
      | nil => simp at hll
      | cons x la => exact ⟨x, la, rfl⟩
    have hla : la.length = l.length := by simpa using hll
    have hl : pa.length + (la.length + 1) = n := by rw [← hn, heA]; simp
    have hl2 : pb.length + (l.length + 1) = m := by rw [← hmm, heB]; simp
    obtain ⟨ad, rfl, ca⟩ : MCells (wmem w) oa (qsC A) := by
      rcases ha with h | h
      · rw [heA] at h; rw [qsC_append, qsC_cons] at h; simp at h
      · exact h
    obtain ⟨ad2, rfl, cb⟩ : MCells (wmem w) ob (qsC B) := by
      rcases hb with h | h
      · rw [heB] at h; rw [qsC_append, qsC_cons] at h; simp at h
      · exact h
    have hx := qs_at pa la x (by rw [← heA]; exact ⟨ad, rfl, ca⟩)
    have hx2 := qs_at pb l y (by rw [← heB]; exact ⟨ad2, rfl, cb⟩)
    rw [← hpp] at hx2
    have hlen : (pa ++ [x]).length = pa.length + 1 := by simp
    by_cases hs : [x.1, x.2.1, x.2.2] = [y.1, y.2.1, y.2.2]
    · have next := sm37_loop (w := w) (some ad) (some ad2) n cap m cap2 A B hn hmm hbd ha hb R l la (pa ++ [x]) (pb ++ [y]) (by rw [heA]; simp) (by rw [heB]; simp) (by simp [hpp]) hla (by rw [← eqB_cons x y la l (by simp only [List.cons.injEq, and_true] at hs; exact Prod.ext hs.1 (Prod.ext hs.2.1 hs.2.2))]; exact hR)
      rw [hlen] at next
      refine Ok.rnd (xgo_trim hm (F0.mono w) finB 60 _ _ _ _ _ _ (sm37t ad ad2 n cap m cap2 pa.length (l.length + 1) x.1 x.2.1 x.2.2 y.1 y.2.1 y.2.2 _) (paidCons (fun _ => ⟨?_, ?_⟩) paidNil))
      · simp only [hold_cons, hold_nil, and_true]
        exact ⟨fun _ _ => decide_eq_true (by omega), fun _ _ => ⟨by omega, by omega⟩, fun _ _ => trivial, hold_cells hx, fun _ _ => ⟨by omega, by omega⟩, fun _ _ => trivial, hold_cells hx2, fun _ _ => by rw [decide_eq_true hs]; rfl⟩
      · simp only [wrap_inc pa.length (by omega)]
        exact ok_mono rfl next
    · rw [eqB_false (by intro h; exact hs (by rw [(List.cons.inj h).1]))] at hR
      refine Ok.rnd (ok_plain hm (F0.mono w) (fun _ h => h) 60 _ _ _ _ (sm37f ad ad2 n cap m cap2 pa.length (l.length + 1) x.1 x.2.1 x.2.2 y.1 y.2.1 y.2.2) ⟨fun _ => ⟨?_, hR⟩, trivial⟩)
      simp only [hold_cons, hold_nil, and_true]
      exact ⟨fun _ _ => decide_eq_true (by omega), fun _ _ => ⟨by omega, by omega⟩, fun _ _ => trivial, hold_cells hx, fun _ _ => ⟨by omega, by omega⟩, fun _ _ => trivial, hold_cells hx2, fun _ _ => by rw [decide_eq_false hs]; rfl⟩
theorem sm37_ok (oa ob : Option Addr) (n cap m cap2 : Nat) (A B : List Qy) (hn : A.length = n) (hmm : B.length = m) (hbd : n ≤ 4611686018427387903) (w : World) (ha : qsC A = [] ∨ MCells (wmem w) oa (qsC A)) (hb : qsC B = [] ∨ MCells (wmem w) ob (qsC B)) :
    Calls Try.prog 37 [.slice oa n cap, .slice ob m cap2].toArray w (fun E w' => ∃ v, E = .returned v ∧ Res.ok w w' (.v (.bool (eqB A B))) v ∧ Below w.heap.size w w') := by
  by_cases hnm : n = m
  · refine con_end (calls_of_ok (B := bodyOf Try.f37) (n := 26) Try.func37 (by kernel_rfl) rfl rfl (F := F0 w) (fun _ _ h => h) ?_)
    refine xgo_trim hm (F0.mono w) finB 60 _ _ _ _ _ _ (sm37S oa ob n cap m cap2) (paidCons (fun _ => ⟨?_, ?_⟩) paidNil)
    · simp only [hold_cons, hold_nil, and_true]
      exact fun _ _ => by rw [hnm]; simp
    · exact ok_mono (st := stE37 oa ob n cap m cap2 0) rfl (Ok.loop (B.length + 2) (by kernel_rfl) (sm37_loop oa ob n cap m cap2 A B hn hmm hbd ha hb (fun r => r = .v (.bool (eqB A B))) B A [] [] rfl rfl rfl (by omega) rfl))
  · rw [eqB_false (by intro h; rw [h] at hn; omega)]
    refine con_end (calls_plain hm Try.func37 (by kernel_rfl) rfl rfl 60 _ _ (sm37X oa ob n cap m cap2) ⟨fun _ => ⟨?_, rfl⟩, trivial⟩)
    simp only [hold_cons, hold_nil, and_true]
    exact fun _ _ => by
      rw [beq_eq_false_iff_ne.2 (by omega)]; rfl
noncomputable def gSm37 : List RV → Option (Res × Prop)
  | [.r n cs, .r m ds] => some (.v (.bool (sqB cs ds)), cs = qsC (unQs cs) ∧ (unQs cs).length = n ∧ n ≤ 4611686018427387903 ∧ ds = qsC (unQs ds) ∧ (unQs ds).length = m)
  | _ => none
theorem gSm37_ok (rvs : List RV) (r : Res) (p : Prop) (vs : List Value) (w : World) (hg : gSm37 rvs = some (r, p)) (hp : p) (hv : RVs (wmem w) rvs vs) : Calls Try.prog 37 vs.toArray w (fun E w' => ∃ v, E = .returned v ∧ r.ok w w' v ∧ Below w.heap.size w w') := by
  unfold gSm37 at hg
  split at hg
  · simp only [Option.some.injEq, Prod.mk.injEq] at hg
    obtain ⟨rfl, rfl⟩ := hg
    obtain ⟨hc, hn, hb, hd, hmm⟩ := hp
    match vs, hv with
    | [x, y], ⟨⟨oa, cap, h1, h2⟩, ⟨ob, cap2, h3, h4⟩, _⟩ =>
      rw [h1, h3, sqB, hidQ_eq]
      rw [hc] at h2
      rw [hd] at h4
      exact sm37_ok oa ob _ cap _ cap2 _ _ hn hmm hb w h2 h4
  · cases hg
noncomputable def K19 : Con Try.prog := ((K19a.add 41 gSm41 gSm41_ok).add 36 gSm36 gSm36_ok).add 37 gSm37 gSm37_ok
end Go.Proofs.Ytpghmnpbfaichaa
