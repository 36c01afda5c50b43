/- The document's side: where a query stands. -/
import Derived.Test.YtpghmnpbfaichaaE15
namespace Go.Proofs.Ytpghmnpbfaichaa
open Go.Sx Go.Pl Go.RowKit
set_option linter.unusedVariables false
theorem atS (oa : Option Addr) (n cap : Nat) (a b c : Int) : ((xgo Try.prog X (bodyOf Try.f70) 19 K15 [] 60 [] ((.nil)) [.at []] ⟨argsTm 0 [.slice oa n cap, .agg (Array.mk [.int .i64 a, .int .i64 b, .int .i64 c])], []⟩ [] []).map (trims [5, 4, 3, 0])) =
  some [Leaf2.mk [] [] [It.at [(0 : Nat), (1 : Nat), (0 : Nat), (1 : Nat)], It.blk (0 : Nat), It.at [(1 : Nat), (1 : Nat)]] (St.mk [((5 : Nat), SV.v (Value.int IntKind.i64 (0 : Int))), ((4 : Nat), SV.v (Value.int IntKind.i64 (0 : Int))), ((3 : Nat), SV.p (0 : Nat) (0 : Nat)), ((0 : Nat), SV.v (Value.slice oa n cap))] [HO.cells [SV.v (Value.int IntKind.i64 a), SV.v (Value.int IntKind.i64 b), SV.v (Value.int IntKind.i64 c)] (63 : Nat)])]
  := by kernel_rfl

theorem atE (oa : Option Addr) (n cap k M : Nat) (a b c : Int) : (((xgo Try.prog X (bodyOf Try.f70) 19 K15 [] 60 [.f] ((.nil)) [.at [0,0,1,0,1], .rnd [0,0,1,0,1] (M + 1), .blk 0, .at [1,1]] ⟨[(5, .v (.int .i64 (k : Int))), (4, .v (.int .i64 0)), (3, .p 0 0), (0, .v (.slice oa n cap))], [.cells [.v (.int .i64 a), .v (.int .i64 b), .v (.int .i64 c)] 63]⟩ [] []).bind (ends Try.prog Try.f70.results.toList)).bind plainE) =
  some [EndP.mk [] [fun _ => decide ((↑k : Int) < (↑n : Int)) = false] (Res.v (Value.int IntKind.i64 (-1 : Int)))]
  := by kernel_rfl

theorem atT (ad : Addr) (n cap k M : Nat) (a b c x y z : Int) : (((xgo Try.prog X (bodyOf Try.f70) 19 K15 [] 60 [.t, .ld (.agg [.v (.int .i64 x), .v (.int .i64 y), .v (.int .i64 z)]), .t] ((.nil)) [.at [0,0,1,0,1], .rnd [0,0,1,0,1] (M + 1), .blk 0, .at [1,1]] ⟨[(5, .v (.int .i64 (k : Int))), (4, .v (.int .i64 0)), (3, .p 0 0), (0, .v (.slice (some ad) n cap))], [.cells [.v (.int .i64 a), .v (.int .i64 b), .v (.int .i64 c)] 63]⟩ [] []).bind (ends Try.prog Try.f70.results.toList)).bind plainE) =
  some [EndP.mk [] [fun _ => decide ((↑k : Int) < (↑n : Int)) = true,
    fun _ => (0 : Int) ≤ (↑k : Int) ∧ (↑k : Int) < (↑n : Int),
    fun _ => true = true, fun M => MCells (fun a => M a) (some (if Int.toNat (↑k : Int) * (3 : Nat) = (0 : Nat) then ad else Addr.mk ad.1 (ad.2 + Int.toNat (↑k : Int) * (3 : Nat)) none)) [Value.int IntKind.i64 x, Value.int IntKind.i64 y, Value.int IntKind.i64 z],
    fun _ => decide ([x, y, z] = [a, b, c]) = true] (Res.v (Value.int IntKind.i64 (↑k : Int)))]
  := by kernel_rfl

theorem atN (ad : Addr) (n cap k M : Nat) (a b c x y z : Int) (kt : List It) : ((xgo Try.prog X (bodyOf Try.f70) 19 K15 [] 60 [.t, .ld (.agg [.v (.int .i64 x), .v (.int .i64 y), .v (.int .i64 z)]), .f] ((.nil)) (.at [0,0,1,0,1] :: .rnd [0,0,1,0,1] (M + 1) :: kt) ⟨[(5, .v (.int .i64 (k : Int))), (4, .v (.int .i64 0)), (3, .p 0 0), (0, .v (.slice (some ad) n cap))], [.cells [.v (.int .i64 a), .v (.int .i64 b), .v (.int .i64 c)] 63]⟩ [] []).map (trims [5, 4, 3, 0])) =
  some [Leaf2.mk [] [fun _ => decide ((↑k : Int) < (↑n : Int)) = true,
    fun _ => (0 : Int) ≤ (↑k : Int) ∧ (↑k : Int) < (↑n : Int),
    fun _ => true = true, fun M => MCells (fun a => M a) (some (if Int.toNat (↑k : Int) * (3 : Nat) = (0 : Nat) then ad else Addr.mk ad.1 (ad.2 + Int.toNat (↑k : Int) * (3 : Nat)) none)) [Value.int IntKind.i64 x, Value.int IntKind.i64 y, Value.int IntKind.i64 z],
    fun _ => decide ([x, y, z] = [a, b, c]) = false] (It.rnd [(0 : Nat), (0 : Nat), (1 : Nat), (0 : Nat), (1 : Nat)] (M + (1 : Nat)) :: kt) (St.mk [((5 : Nat), SV.v (Value.int IntKind.i64 (IntKind.wrap IntKind.i64 ((↑k : Int) + (1 : Int))))), ((4 : Nat), SV.v (Value.int IntKind.i64 (0 : Int))), ((3 : Nat), SV.p (0 : Nat) (0 : Nat)), ((0 : Nat), SV.v (Value.slice (some ad) n cap))] [HO.cells [SV.v (Value.int IntKind.i64 a), SV.v (Value.int IntKind.i64 b), SV.v (Value.int IntKind.i64 c)] (63 : Nat)])]
  := by kernel_rfl

noncomputable def stAt (oa : Option Addr) (n cap k : Nat) (a b c : Int) : St := ⟨[(5, .v (.int .i64 (k : Int))), (4, .v (.int .i64 0)), (3, .p 0 0), (0, .v (.slice oa n cap))], [.cells [.v (.int .i64 a), .v (.int .i64 b), .v (.int .i64 c)] 63]⟩
theorem at_loop {w : World} (oa : Option Addr) (n cap : Nat) (a b c : Int) (all : List Qy) (hn : all.length = n) (hb : n ≤ 4611686018427387903) (ha : qsC all = [] ∨ MCells (wmem w) oa (qsC all)) (R : Res → Prop) :
    ∀ (l pre : List Qy), all = pre ++ l → R (.v (.int .i64 (idxF (sameQ a b c) pre.length l))) →
    Ok Try.prog (bodyOf Try.f70) 19 (F0 w) w (bodyPost Try.prog Try.f70 fun E w' => ∃ v r, E = .returned v ∧ R r ∧ r.ok w w' v ∧ Below w.heap.size w w') (.rnd [0,0,1,0,1] (l.length + 2) :: [.blk 0, .at [1,1]]) (stAt oa n cap pre.length a b c)
  | [], pre, he, hR => by
    have hl : pre.length = n := by rw [← hn, he]; simp
    refine Ok.rnd (ok_plain hm (F0.mono w) (fun _ h => h) 60 _ _ _ _ (atE oa n cap pre.length 0 a b c) ⟨fun _ => ⟨?_, hR⟩, trivial⟩)
    simp only [hold_cons, hold_nil, and_true]
    exact fun _ _ => decide_eq_false (by omega)
  | x :: l, pre, he, hR => by
    have hl : pre.length + (l.length + 1) = n := by rw [← hn, he]; simp
    have hne : MCells (wmem w) oa (qsC all) := by
      rcases ha with h | h
      · rw [he, qsC_append, qsC_cons] at h; simp at h
      · exact h
    obtain ⟨ad, rfl, hcells⟩ := hne
    have hx := qs_at pre l x (by rw [← he]; exact ⟨ad, rfl, hcells⟩)
    have s1 : decide (((pre.length : Nat) : Int) < (n : Int)) = true := decide_eq_true (by omega)
    have s2 : (0 : Int) ≤ ((pre.length : Nat) : Int) ∧ ((pre.length : Nat) : Int) < (n : Int) := ⟨by omega, by omega⟩
    rw [idxF] at hR
    have hq2 : decide ([x.1, x.2.1, x.2.2] = [a, b, c]) = sameQ a b c x := by rw [sameQ, decide_eq_decide]; exact eq_comm
    cases hq : sameQ a b c x with
    | true =>
      rw [hq, if_pos rfl] at hR
      refine Ok.rnd (ok_plain hm (F0.mono w) (fun _ h => h) 60 _ _ _ _ (atT ad n cap pre.length (l.length + 1) a b c x.1 x.2.1 x.2.2) ⟨fun _ => ⟨?_, hR⟩, trivial⟩)
      simp only [hold_cons, hold_nil, and_true]
      exact ⟨fun _ _ => s1, fun _ _ => s2, fun _ _ => trivial, hold_cells hx, fun _ _ => by rw [hq2, hq]⟩
    | false =>
      rw [hq, if_neg (by simp)] at hR
      refine Ok.rnd (xgo_trim hm (F0.mono w) finB 60 _ _ _ _ _ _ (atN ad n cap pre.length (l.length + 1) a b c x.1 x.2.1 x.2.2 _) (paidCons (fun _ => ⟨?_, ?_⟩) paidNil))
      · simp only [hold_cons, hold_nil, and_true]
        exact ⟨fun _ _ => s1, fun _ _ => s2, fun _ _ => trivial, hold_cells hx, fun _ _ => by rw [hq2, hq]⟩
      · simp only [wrap_inc pre.length (by omega)]
        have hlen : (pre ++ [x]).length = pre.length + 1 := by simp
        refine ok_mono (st := stAt (some ad) n cap (pre ++ [x]).length a b c) (by rw [hlen]; rfl) (at_loop (some ad) n cap a b c all hn hb ha R l (pre ++ [x]) (by rw [he]; simp) (by rw [hlen]; exact hR))
theorem at_ok (oa : Option Addr) (n cap : Nat) (a b c : Int) (all : List Qy) (hn : all.length = n) (hb : n ≤ 4611686018427387903) (w : World) (ha : qsC all = [] ∨ MCells (wmem w) oa (qsC all)) :
    Calls Try.prog 70 [.slice oa n cap, .agg (Array.mk [.int .i64 a, .int .i64 b, .int .i64 c])].toArray w (fun E w' => ∃ v, E = .returned v ∧ Res.ok w w' (.v (.int .i64 (idxF (sameQ a b c) 0 all))) v ∧ Below w.heap.size w w') := by
  refine con_end (calls_of_ok (B := bodyOf Try.f70) (n := 19) Try.func70 (by kernel_rfl) rfl rfl (F := F0 w) (fun _ _ h => h) ?_)
  refine xgo_trim hm (F0.mono w) finB 60 _ _ _ _ _ _ (atS oa n cap a b c) (paidCons (fun _ => ⟨?_, ?_⟩) paidNil)
  · simp only [hold_nil]
  · exact ok_mono (st := stAt oa n cap 0 a b c) rfl (Ok.loop (all.length + 2) (by kernel_rfl) (at_loop oa n cap a b c all hn hb ha (fun r => r = .v (.int .i64 (idxF (sameQ a b c) 0 all))) all [] rfl rfl))
noncomputable def gAt : List RV → Option (Res × Prop)
  | [.r n cs, .v (.agg ⟨[.int .i64 a, .int .i64 b, .int .i64 c]⟩)] => some (.v (.int .i64 (qIdx cs a b c)), cs = qsC (unQs cs) ∧ (unQs cs).length = n ∧ n ≤ 4611686018427387903)
  | [.v (.slice none 0 0), .v (.agg ⟨[.int .i64 a, .int .i64 b, .int .i64 c]⟩)] => some (.v (.int .i64 (qIdx [] a b c)), True)
  | _ => none
theorem gAt_ok (rvs : List RV) (r : Res) (p : Prop) (vs : List Value) (w : World) (hg : gAt rvs = some (r, p)) (hp : p) (hv : RVs (wmem w) rvs vs) : Calls Try.prog 70 vs.toArray w (fun E w' => ∃ v, E = .returned v ∧ r.ok w w' v ∧ Below w.heap.size w w') := by
  unfold gAt at hg
  split at hg
  · simp only [Option.some.injEq, Prod.mk.injEq] at hg
    obtain ⟨rfl, rfl⟩ := hg
    obtain ⟨hc, hn, hb⟩ := hp
    match vs, hv with
    | [x, y], ⟨⟨oa, cap, h1, h2⟩, h3, _⟩ =>
      rw [h1, h3, qIdx, hidZ_eq]
      rw [hc] at h2
      exact at_ok oa _ cap _ _ _ _ hn hb w h2
  · simp only [Option.some.injEq, Prod.mk.injEq] at hg
    obtain ⟨rfl, rfl⟩ := hg
    rw [rvs2 hv, qIdx, hidZ_eq]
    exact at_ok none 0 0 _ _ _ [] rfl (by omega) w (.inl rfl)
  · cases hg
noncomputable def K16 : Con Try.prog := K15.add 70 gAt gAt_ok
end Go.Proofs.Ytpghmnpbfaichaa

namespace Go.Proofs.Ytpghmnpbfaichaa
open Go.Sx Go.Pl Go.RowKit
set_option linter.unusedVariables false
set_option hygiene false in
macro "sidesq" : tactic => `(tactic| (simp only [hold_cons, hold_nil, and_true, unv_mapv', unQs_qsC]; repeat' apply And.intro
                                      all_goals first | exact hold_cells hx | exact hold_cells hx0 | exact hold_cells hx1 | exact hold_cells hx2 | (intro _ _; first | exact ⟨trivial, trivial, by omega⟩ | side1)))
theorem rqx (ad : Addr) (n cap k M m : Nat) (ds : List Value) (op a b z0 z1 z2 z3 : Int) (kt : List It) : ((xgo Try.prog X (bodyOf Try.f40) 45 K16 [] 60 [.t, .ld (.v (.int .i64 op)), .ld (.v (.int .i64 a)), .ld (.v (.int .i64 b)), .ld (.agg [.v (.int .i64 op), .v (.int .i64 a), .v (.int .i64 b), .v (.int .u64 z0), .v (.int .u64 z1), .v (.int .u64 z2), .v (.int .u64 z3)]), .f, .f] ((.nil)) (.at [0,0,1,0,1,1] :: .rnd [0,0,1,0,1,1] (M + 1) :: kt) ⟨[(4, .v (.int .i64 (k : Int))), (3, .o 0), (2, .v (.slice none 0 0)), (0, .v (.slice (some ad) n cap))], [.row 63 3 m (mapv ds)]⟩ [] []).map (trims [4, 3, 2, 0])) =
  some [Leaf2.mk [] [fun _ => decide ((↑k : Int) < (↑n : Int)) = true,
    fun _ => (0 : Int) ≤ (↑k : Int) ∧ (↑k : Int) < (↑n : Int),
    fun _ => true = true,
    fun _ => true = true, fun M => MCells (fun a => M a) (some (if (0 : Nat) = (0 : Nat) then if Int.toNat (↑k : Int) * (7 : Nat) = (0 : Nat) then ad else Addr.mk ad.1 (ad.2 + Int.toNat (↑k : Int) * (7 : Nat)) none else Addr.mk (if Int.toNat (↑k : Int) * (7 : Nat) = (0 : Nat) then ad else Addr.mk ad.1 (ad.2 + Int.toNat (↑k : Int) * (7 : Nat)) none).1 ((if Int.toNat (↑k : Int) * (7 : Nat) = (0 : Nat) then ad else Addr.mk ad.1 (ad.2 + Int.toNat (↑k : Int) * (7 : Nat)) none).2 + (0 : Nat)) none)) [Value.int IntKind.i64 op],
    fun _ => (0 : Int) ≤ (↑k : Int) ∧ (↑k : Int) < (↑n : Int),
    fun _ => true = true,
    fun _ => true = true, fun M => MCells (fun a => M a) (some (Addr.mk (if Int.toNat (↑k : Int) * (7 : Nat) = (0 : Nat) then ad else Addr.mk ad.1 (ad.2 + Int.toNat (↑k : Int) * (7 : Nat)) none).1 ((if Int.toNat (↑k : Int) * (7 : Nat) = (0 : Nat) then ad else Addr.mk ad.1 (ad.2 + Int.toNat (↑k : Int) * (7 : Nat)) none).2 + (1 : Nat)) none)) [Value.int IntKind.i64 a],
    fun _ => (0 : Int) ≤ (↑k : Int) ∧ (↑k : Int) < (↑n : Int),
    fun _ => true = true,
    fun _ => true = true, fun M => MCells (fun a => M a) (some (Addr.mk (if Int.toNat (↑k : Int) * (7 : Nat) = (0 : Nat) then ad else Addr.mk ad.1 (ad.2 + Int.toNat (↑k : Int) * (7 : Nat)) none).1 ((if Int.toNat (↑k : Int) * (7 : Nat) = (0 : Nat) then ad else Addr.mk ad.1 (ad.2 + Int.toNat (↑k : Int) * (7 : Nat)) none).2 + (2 : Nat)) none)) [Value.int IntKind.i64 b],
    fun _ => (0 : Nat) + (3 : Nat) ≤ (3 : Nat),
    fun _ => (0 : Int) ≤ (↑k : Int) ∧ (↑k : Int) < (↑n : Int),
    fun _ => true = true, fun M => MCells (fun a => M a) (some (if Int.toNat (↑k : Int) * (7 : Nat) = (0 : Nat) then ad else Addr.mk ad.1 (ad.2 + Int.toNat (↑k : Int) * (7 : Nat)) none)) [Value.int IntKind.i64 op, Value.int IntKind.i64 a, Value.int IntKind.i64 b, Value.int IntKind.u64 z0, Value.int IntKind.u64 z1, Value.int IntKind.u64 z2, Value.int IntKind.u64 z3],
    fun _ => True,
    fun _ => qyB op = false,
    fun _ => false = false] (It.rnd [(0 : Nat), (0 : Nat), (1 : Nat), (0 : Nat), (1 : Nat), (1 : Nat)] (M + (1 : Nat)) :: kt) (St.mk [((4 : Nat), SV.v (Value.int IntKind.i64 (IntKind.wrap IntKind.i64 ((↑k : Int) + (1 : Int))))), ((3 : Nat), SV.o (0 : Nat)), ((2 : Nat), SV.v (Value.slice none (0 : Nat) (0 : Nat))), ((0 : Nat), SV.v (Value.slice (some ad) n cap))] [HO.row (63 : Nat) (3 : Nat) m (mapv ds), HO.cells [SV.v (Value.int IntKind.i64 op), SV.v (Value.int IntKind.i64 a), SV.v (Value.int IntKind.i64 b)] (63 : Nat)])]
  := by kernel_rfl

theorem rqt (ad : Addr) (n cap k M m : Nat) (ds : List Value) (op a b z0 z1 z2 z3 : Int) (kt : List It) : ((xgo Try.prog X (bodyOf Try.f40) 45 K16 [] 60 [.t, .ld (.v (.int .i64 op)), .ld (.v (.int .i64 a)), .ld (.v (.int .i64 b)), .ld (.agg [.v (.int .i64 op), .v (.int .i64 a), .v (.int .i64 b), .v (.int .u64 z0), .v (.int .u64 z1), .v (.int .u64 z2), .v (.int .u64 z3)]), .t, .f] ((.nil)) (.at [0,0,1,0,1,1] :: .rnd [0,0,1,0,1,1] (M + 1) :: kt) ⟨[(4, .v (.int .i64 (k : Int))), (3, .o 0), (2, .v (.slice none 0 0)), (0, .v (.slice (some ad) n cap))], [.row 63 3 m (mapv ds)]⟩ [] []).map (trims [4, 3, 2, 0])) =
  some [Leaf2.mk [] [fun _ => decide ((↑k : Int) < (↑n : Int)) = true,
    fun _ => (0 : Int) ≤ (↑k : Int) ∧ (↑k : Int) < (↑n : Int),
    fun _ => true = true,
    fun _ => true = true, fun M => MCells (fun a => M a) (some (if (0 : Nat) = (0 : Nat) then if Int.toNat (↑k : Int) * (7 : Nat) = (0 : Nat) then ad else Addr.mk ad.1 (ad.2 + Int.toNat (↑k : Int) * (7 : Nat)) none else Addr.mk (if Int.toNat (↑k : Int) * (7 : Nat) = (0 : Nat) then ad else Addr.mk ad.1 (ad.2 + Int.toNat (↑k : Int) * (7 : Nat)) none).1 ((if Int.toNat (↑k : Int) * (7 : Nat) = (0 : Nat) then ad else Addr.mk ad.1 (ad.2 + Int.toNat (↑k : Int) * (7 : Nat)) none).2 + (0 : Nat)) none)) [Value.int IntKind.i64 op],
    fun _ => (0 : Int) ≤ (↑k : Int) ∧ (↑k : Int) < (↑n : Int),
    fun _ => true = true,
    fun _ => true = true, fun M => MCells (fun a => M a) (some (Addr.mk (if Int.toNat (↑k : Int) * (7 : Nat) = (0 : Nat) then ad else Addr.mk ad.1 (ad.2 + Int.toNat (↑k : Int) * (7 : Nat)) none).1 ((if Int.toNat (↑k : Int) * (7 : Nat) = (0 : Nat) then ad else Addr.mk ad.1 (ad.2 + Int.toNat (↑k : Int) * (7 : Nat)) none).2 + (1 : Nat)) none)) [Value.int IntKind.i64 a],
    fun _ => (0 : Int) ≤ (↑k : Int) ∧ (↑k : Int) < (↑n : Int),
    fun _ => true = true,
    fun _ => true = true, fun M => MCells (fun a => M a) (some (Addr.mk (if Int.toNat (↑k : Int) * (7 : Nat) = (0 : Nat) then ad else Addr.mk ad.1 (ad.2 + Int.toNat (↑k : Int) * (7 : Nat)) none).1 ((if Int.toNat (↑k : Int) * (7 : Nat) = (0 : Nat) then ad else Addr.mk ad.1 (ad.2 + Int.toNat (↑k : Int) * (7 : Nat)) none).2 + (2 : Nat)) none)) [Value.int IntKind.i64 b],
    fun _ => (0 : Nat) + (3 : Nat) ≤ (3 : Nat),
    fun _ => (0 : Int) ≤ (↑k : Int) ∧ (↑k : Int) < (↑n : Int),
    fun _ => true = true, fun M => MCells (fun a => M a) (some (if Int.toNat (↑k : Int) * (7 : Nat) = (0 : Nat) then ad else Addr.mk ad.1 (ad.2 + Int.toNat (↑k : Int) * (7 : Nat)) none)) [Value.int IntKind.i64 op, Value.int IntKind.i64 a, Value.int IntKind.i64 b, Value.int IntKind.u64 z0, Value.int IntKind.u64 z1, Value.int IntKind.u64 z2, Value.int IntKind.u64 z3],
    fun _ => True,
    fun _ => qyB op = true,
    fun _ => mapv ds = mapv (unv (mapv ds)),
    fun _ => unv (mapv ds) = qsC (unQs (unv (mapv ds))) ∧ List.length (unQs (unv (mapv ds))) = m ∧ m ≤ (4611686018427387903 : Nat),
    fun _ => decide (qIdx (unv (mapv ds)) op a b < (0 : Int)) = false] (It.rnd [(0 : Nat), (0 : Nat), (1 : Nat), (0 : Nat), (1 : Nat), (1 : Nat)] (M + (1 : Nat)) :: kt) (St.mk [((4 : Nat), SV.v (Value.int IntKind.i64 (IntKind.wrap IntKind.i64 ((↑k : Int) + (1 : Int))))), ((3 : Nat), SV.o (0 : Nat)), ((2 : Nat), SV.v (Value.slice none (0 : Nat) (0 : Nat))), ((0 : Nat), SV.v (Value.slice (some ad) n cap))] [HO.row (63 : Nat) (3 : Nat) m (mapv ds), HO.cells [SV.v (Value.int IntKind.i64 op), SV.v (Value.int IntKind.i64 a), SV.v (Value.int IntKind.i64 b)] (63 : Nat)])]
  := by kernel_rfl

theorem rqf (ad : Addr) (n cap k M m : Nat) (ds : List Value) (op a b z0 z1 z2 z3 : Int) (kt : List It) : ((xgo Try.prog X (bodyOf Try.f40) 45 K16 [] 60 [.t, .ld (.v (.int .i64 op)), .ld (.v (.int .i64 a)), .ld (.v (.int .i64 b)), .ld (.agg [.v (.int .i64 op), .v (.int .i64 a), .v (.int .i64 b), .v (.int .u64 z0), .v (.int .u64 z1), .v (.int .u64 z2), .v (.int .u64 z3)]), .t, .t] ((.nil)) (.at [0,0,1,0,1,1] :: .rnd [0,0,1,0,1,1] (M + 1) :: kt) ⟨[(4, .v (.int .i64 (k : Int))), (3, .o 0), (2, .v (.slice none 0 0)), (0, .v (.slice (some ad) n cap))], [.row 63 3 m (mapv ds)]⟩ [] []).map (trims [4, 3, 2, 0])) =
  some [Leaf2.mk [] [fun _ => decide ((↑k : Int) < (↑n : Int)) = true,
    fun _ => (0 : Int) ≤ (↑k : Int) ∧ (↑k : Int) < (↑n : Int),
    fun _ => true = true,
    fun _ => true = true, fun M => MCells (fun a => M a) (some (if (0 : Nat) = (0 : Nat) then if Int.toNat (↑k : Int) * (7 : Nat) = (0 : Nat) then ad else Addr.mk ad.1 (ad.2 + Int.toNat (↑k : Int) * (7 : Nat)) none else Addr.mk (if Int.toNat (↑k : Int) * (7 : Nat) = (0 : Nat) then ad else Addr.mk ad.1 (ad.2 + Int.toNat (↑k : Int) * (7 : Nat)) none).1 ((if Int.toNat (↑k : Int) * (7 : Nat) = (0 : Nat) then ad else Addr.mk ad.1 (ad.2 + Int.toNat (↑k : Int) * (7 : Nat)) none).2 + (0 : Nat)) none)) [Value.int IntKind.i64 op],
    fun _ => (0 : Int) ≤ (↑k : Int) ∧ (↑k : Int) < (↑n : Int),
    fun _ => true = true,
    fun _ => true = true, fun M => MCells (fun a => M a) (some (Addr.mk (if Int.toNat (↑k : Int) * (7 : Nat) = (0 : Nat) then ad else Addr.mk ad.1 (ad.2 + Int.toNat (↑k : Int) * (7 : Nat)) none).1 ((if Int.toNat (↑k : Int) * (7 : Nat) = (0 : Nat) then ad else Addr.mk ad.1 (ad.2 + Int.toNat (↑k : Int) * (7 : Nat)) none).2 + (1 : Nat)) none)) [Value.int IntKind.i64 a],
    fun _ => (0 : Int) ≤ (↑k : Int) ∧ (↑k : Int) < (↑n : Int),
    fun _ => true = true,
    fun _ => true = true, fun M => MCells (fun a => M a) (some (Addr.mk (if Int.toNat (↑k : Int) * (7 : Nat) = (0 : Nat) then ad else Addr.mk ad.1 (ad.2 + Int.toNat (↑k : Int) * (7 : Nat)) none).1 ((if Int.toNat (↑k : Int) * (7 : Nat) = (0 : Nat) then ad else Addr.mk ad.1 (ad.2 + Int.toNat (↑k : Int) * (7 : Nat)) none).2 + (2 : Nat)) none)) [Value.int IntKind.i64 b],
    fun _ => (0 : Nat) + (3 : Nat) ≤ (3 : Nat),
    fun _ => (0 : Int) ≤ (↑k : Int) ∧ (↑k : Int) < (↑n : Int),
    fun _ => true = true, fun M => MCells (fun a => M a) (some (if Int.toNat (↑k : Int) * (7 : Nat) = (0 : Nat) then ad else Addr.mk ad.1 (ad.2 + Int.toNat (↑k : Int) * (7 : Nat)) none)) [Value.int IntKind.i64 op, Value.int IntKind.i64 a, Value.int IntKind.i64 b, Value.int IntKind.u64 z0, Value.int IntKind.u64 z1, Value.int IntKind.u64 z2, Value.int IntKind.u64 z3],
    fun _ => True,
    fun _ => qyB op = true,
    fun _ => mapv ds = mapv (unv (mapv ds)),
    fun _ => unv (mapv ds) = qsC (unQs (unv (mapv ds))) ∧ List.length (unQs (unv (mapv ds))) = m ∧ m ≤ (4611686018427387903 : Nat),
    fun _ => decide (qIdx (unv (mapv ds)) op a b < (0 : Int)) = true,
    fun _ => (m + (1 : Nat)) * (24 : Nat) ≤ (140737488355328 : Nat) ∧ m + (1 : Nat) ≤ (140737488355328 : Nat)] (It.rnd [(0 : Nat), (0 : Nat), (1 : Nat), (0 : Nat), (1 : Nat), (1 : Nat)] (M + (1 : Nat)) :: kt) (St.mk [((4 : Nat), SV.v (Value.int IntKind.i64 (IntKind.wrap IntKind.i64 ((↑k : Int) + (1 : Int))))), ((3 : Nat), SV.o (3 : Nat)), ((2 : Nat), SV.v (Value.slice none (0 : Nat) (0 : Nat))), ((0 : Nat), SV.v (Value.slice (some ad) n cap))] [HO.gone, HO.cells [SV.v (Value.int IntKind.i64 op), SV.v (Value.int IntKind.i64 a), SV.v (Value.int IntKind.i64 b)] (63 : Nat), HO.row (63 : Nat) (3 : Nat) (1 : Nat) [SV.v (Value.int IntKind.i64 op), SV.v (Value.int IntKind.i64 a), SV.v (Value.int IntKind.i64 b)], HO.row (63 : Nat) (3 : Nat) (m + (1 : Nat)) (mapv ds ++ [SV.v (Value.int IntKind.i64 op), SV.v (Value.int IntKind.i64 a), SV.v (Value.int IntKind.i64 b)])])]
  := by kernel_rfl

theorem rqS (oa : Option Addr) (n cap : Nat) : ((xgo Try.prog X (bodyOf Try.f40) 45 K16 [] 60 [] ((.nil)) [.at []] ⟨argsTm 0 [.slice oa n cap], []⟩ [] []).map (trims [4, 3, 2, 0])) =
  some [Leaf2.mk [] [] [It.at [(0 : Nat), (1 : Nat), (0 : Nat), (1 : Nat), (1 : Nat)], It.blk (0 : Nat), It.at [(1 : Nat), (1 : Nat), (1 : Nat)]] (St.mk [((4 : Nat), SV.v (Value.int IntKind.i64 (0 : Int))), ((3 : Nat), SV.o (0 : Nat)), ((2 : Nat), SV.v (Value.slice none (0 : Nat) (0 : Nat))), ((0 : Nat), SV.v (Value.slice oa n cap))] [HO.row (63 : Nat) (3 : Nat) (0 : Nat) []])]
  := by kernel_rfl

theorem rqE (oa : Option Addr) (n cap k M m : Nat) (ds : List Value) : (((xgo Try.prog X (bodyOf Try.f40) 45 K16 [] 60 [.f] ((.nil)) [.at [0,0,1,0,1,1], .rnd [0,0,1,0,1,1] (M + 1), .blk 0, .at [1,1,1]] ⟨[(4, .v (.int .i64 (k : Int))), (3, .o 0), (2, .v (.slice none 0 0)), (0, .v (.slice oa n cap))], [.row 63 3 m (mapv ds)]⟩ [] []).bind (ends Try.prog Try.f40.results.toList)).bind plainE) =
  some [EndP.mk [] [fun _ => decide ((↑k : Int) < (↑n : Int)) = false,
    fun _ => mapv ds = mapv (unv (mapv ds))] (Res.r (63 : Nat) (3 : Nat) m (unv (mapv ds)))]
  := by kernel_rfl

noncomputable def stRq (oa : Option Addr) (n cap k m : Nat) (ds : List Value) : St := ⟨[(4, .v (.int .i64 (k : Int))), (3, .o 0), (2, .v (.slice none 0 0)), (0, .v (.slice oa n cap))], [.row 63 3 m (mapv ds)]⟩
theorem rq_weak {w : World} {fin : Exit → Act → World → Prop} (oa : Option Addr) (n cap k m j : Nat) (ds : List Value) (xs : List SV) (hx : xs = mapv ds) (hj : nodupB [j] = true) (kt : List It) (tm : List (Nat × SV)) (hp : List HO) (h1 : RenT [j] tm (stRq oa n cap k m ds).tm) (h2 : hp[j]? = some (.row 63 3 m xs))
    (next : Ok Try.prog (bodyOf Try.f40) 45 (F0 w) w fin kt (stRq oa n cap k m ds)) : Ok Try.prog (bodyOf Try.f40) 45 (F0 w) w fin kt ⟨tm, hp⟩ :=
  Ok.weaken (st' := stRq oa n cap k m ds) (F0.mono w) [j] h1 ⟨by rw [h2, hx]; exact ren_row _ _ _ _ _, trivial⟩ hj ⟨by simp [stRq, wsAllT, ws], by simp only [stRq, wsAllH, HO.ws, and_true]; exact wsL_mapv _ _⟩ next
theorem rq_loop {w : World} (oa : Option Addr) (n cap : Nat) (all : List Nd) (hn : all.length = n) (hb : n ≤ 4398046511104) (ha : nodesC all = [] ∨ MCells (wmem w) oa (nodesC all)) (R : Res → Prop) :
    ∀ (l pre : List Nd) (out : List Qy), all = pre ++ l → out.length ≤ pre.length → R (.r 63 3 (qsN out l).length (qsC (qsN out l))) →
    Ok Try.prog (bodyOf Try.f40) 45 (F0 w) w (bodyPost Try.prog Try.f40 fun E w' => ∃ v r, E = .returned v ∧ R r ∧ r.ok w w' v ∧ Below w.heap.size w w') (.rnd [0,0,1,0,1,1] (l.length + 2) :: [.blk 0, .at [1,1,1]]) (stRq oa n cap pre.length out.length (qsC out))
  | [], pre, out, he, ho, hR => by
    have hl : pre.length = n := by rw [← hn, he]; simp
    refine Ok.rnd (ok_plain hm (F0.mono w) (fun _ h => h) 60 _ _ _ _ (rqE oa n cap pre.length 0 out.length (qsC out)) ⟨fun _ => ⟨?_, ?_⟩, trivial⟩)
    · simp only [hold_cons, hold_nil, and_true, unv_mapv']
      exact ⟨fun _ _ => decide_eq_false (by omega), fun _ _ => trivial⟩
    · rw [unv_mapv']
      exact hR
  | x :: l, pre, out, he, ho, hR => by
    have hl : pre.length + (l.length + 1) = n := by rw [← hn, he]; simp
    have hne : MCells (wmem w) oa (nodesC all) := by
      rcases ha with h | h
      · rw [he, nodesC_append, nodesC_cons] at h; simp [ndC] at h
      · exact h
    obtain ⟨ad, rfl, hcells⟩ := hne
    have hx : MCells (wmem w) (some (ad.add (pre.length * 7))) (ndC x) := nodes_at pre l x (by rw [← he]; exact ⟨ad, rfl, hcells⟩)
    have hx0 := nd_op hx
    have hx1 := nd_a hx
    have hx2 := nd_b hx
    have hlen : (pre ++ [x]).length = pre.length + 1 := by simp
    rw [qsN_step] at hR
    by_cases hkq : 2 ≤ x.op ∧ x.op ≤ 4
    · have hqy : qyB x.op = true := by rw [qyB_eq]; exact decide_eq_true hkq
      rw [show qryN x = true by rw [qryN]; exact decide_eq_true hkq, Bool.true_and] at hR
      have hhas : decide (0 ≤ qIdx (qsC out) x.op x.a x.b) = decide ((x.op, x.a, x.b) ∈ out) := by rw [qhas_idx, qHas, hidQ_eq, unQs_qsC]
      by_cases hin : (x.op, x.a, x.b) ∈ out
      · rw [decide_eq_true hin, Bool.not_true, if_neg (by simp)] at hR
        rw [decide_eq_true hin, decide_eq_true_iff] at hhas
        have next := rq_loop (w := w) (some ad) n cap all hn hb ha R l (pre ++ [x]) out (by rw [he]; simp) (by omega) hR
        rw [hlen] at next
        refine Ok.rnd (xgo_trim hm (F0.mono w) finB 60 _ _ _ _ _ _ (rqt ad n cap pre.length (l.length + 1) out.length (qsC out) x.op x.a x.b (limb x.v 0 : Nat) (limb x.v 1 : Nat) (limb x.v 2 : Nat) (limb x.v 3 : Nat) _) (paidCons (fun _ => ⟨?_, ?_⟩) paidNil))
        · sidesq
        · simp only [wrap_inc pre.length (by omega)]
          exact rq_weak _ _ _ _ _ 0 _ _ (rfl) rfl _ _ _ ⟨rfl, rfl, rfl, rfl, trivial⟩ rfl next
      · rw [decide_eq_false hin, Bool.not_false, if_pos rfl] at hR
        rw [decide_eq_false hin, decide_eq_false_iff_not] at hhas
        have next := rq_loop (w := w) (some ad) n cap all hn hb ha R l (pre ++ [x]) (out ++ [(x.op, x.a, x.b)]) (by rw [he]; simp) (by simp; omega) hR
        rw [hlen, List.length_append, List.length_singleton, qsC_append] at next
        refine Ok.rnd (xgo_trim hm (F0.mono w) finB 60 _ _ _ _ _ _ (rqf ad n cap pre.length (l.length + 1) out.length (qsC out) x.op x.a x.b (limb x.v 0 : Nat) (limb x.v 1 : Nat) (limb x.v 2 : Nat) (limb x.v 3 : Nat) _) (paidCons (fun _ => ⟨?_, ?_⟩) paidNil))
        · sidesq
        · simp only [wrap_inc pre.length (by omega)]
          exact rq_weak _ _ _ _ _ 3 _ _ (by rw [mapv_append]; rfl) rfl _ _ _ ⟨rfl, rfl, rfl, rfl, trivial⟩ rfl next
    have hqy : qyB x.op = false := by rw [qyB_eq]; exact decide_eq_false hkq
    rw [show qryN x = false by rw [qryN]; exact decide_eq_false hkq, Bool.false_and, if_neg (by simp)] at hR
    have next := rq_loop (w := w) (some ad) n cap all hn hb ha R l (pre ++ [x]) out (by rw [he]; simp) (by omega) hR
    rw [hlen] at next
    refine Ok.rnd (xgo_trim hm (F0.mono w) finB 60 _ _ _ _ _ _ (rqx ad n cap pre.length (l.length + 1) out.length (qsC out) x.op x.a x.b (limb x.v 0 : Nat) (limb x.v 1 : Nat) (limb x.v 2 : Nat) (limb x.v 3 : Nat) _) (paidCons (fun _ => ⟨?_, ?_⟩) paidNil))
    · sidesq
    · simp only [wrap_inc pre.length (by omega)]
      exact rq_weak _ _ _ _ _ 0 _ _ (rfl) rfl _ _ _ ⟨rfl, rfl, rfl, rfl, trivial⟩ rfl next
theorem rqueries_ok (oa : Option Addr) (n cap : Nat) (all : List Nd) (hn : all.length = n) (hb : n ≤ 4398046511104) (w : World) (ha : nodesC all = [] ∨ MCells (wmem w) oa (nodesC all)) :
    Calls Try.prog 40 [.slice oa n cap].toArray w (fun E w' => ∃ v, E = .returned v ∧ Res.ok w w' (.r 63 3 (qsN [] all).length (qsC (qsN [] all))) v ∧ Below w.heap.size w w') := by
  refine con_end (calls_of_ok (B := bodyOf Try.f40) (n := 45) Try.func40 (by kernel_rfl) rfl rfl (F := F0 w) (fun _ _ h => h) ?_)
  refine xgo_trim hm (F0.mono w) finB 60 _ _ _ _ _ _ (rqS oa n cap) (paidCons (fun _ => ⟨?_, ?_⟩) paidNil)
  · simp only [hold_nil]
  · exact ok_mono (st := stRq oa n cap 0 0 (qsC [])) rfl (Ok.loop (all.length + 2) (by kernel_rfl) (rq_loop oa n cap all hn hb ha (fun r => r = .r 63 3 (qsN [] all).length (qsC (qsN [] all))) all [] [] rfl (by simp) rfl))
noncomputable def gRQueries : List RV → Option (Res × Prop)
  | [.r n cs] => some (.r 63 3 (qyN cs) (qyL cs), cs = nodesC (unNds cs) ∧ (unNds cs).length = n ∧ n ≤ 4398046511104)
  | [.v (.slice none 0 0)] => some (.r 63 3 0 [], True)
  | _ => none
theorem gRQueries_ok (rvs : List RV) (r : Res) (p : Prop) (vs : List Value) (w : World) (hg : gRQueries rvs = some (r, p)) (hp : p) (hv : RVs (wmem w) rvs vs) : Calls Try.prog 40 vs.toArray w (fun E w' => ∃ v, E = .returned v ∧ r.ok w w' v ∧ Below w.heap.size w w') := by
  unfold gRQueries at hg
  split at hg
  · simp only [Option.some.injEq, Prod.mk.injEq] at hg
    obtain ⟨rfl, rfl⟩ := hg
    obtain ⟨hc, hn, hb⟩ := hp
    match vs, hv with
    | [x], ⟨⟨oa, cap, h1, h2⟩, _⟩ =>
      rw [h1, qyN, qyL, hide_eq]
      rw [hc] at h2
      exact rqueries_ok oa _ cap _ hn hb w h2
  · simp only [Option.some.injEq, Prod.mk.injEq] at hg
    obtain ⟨rfl, rfl⟩ := hg
    match vs, hv with
    | [x], ⟨h1, _⟩ =>
      rw [h1]
      exact rqueries_ok none 0 0 [] rfl (by omega) w (.inl rfl)
  · cases hg
noncomputable def K17 : Con Try.prog := K16.add 40 gRQueries gRQueries_ok
end Go.Proofs.Ytpghmnpbfaichaa
