/- Comparing elements; the little nodes. -/
import Derived.Test.YtpghmnpbfaichaaF9
namespace Go.Pl
open Go.Sx
noncomputable def seB (cs ds : List Value) : Bool := hidQ (eqB (unEs cs) (unEs ds))
theorem seB_self (cs : List Value) : seB cs cs = true := by rw [seB, hidQ_eq, eqB_true rfl]
theorem elL_inj {a b : Nat} (ha : a < top) (hb : b < top) (h : elL a = elL b) : a = b := by
  simp only [elL, List.cons.injEq, and_true] at h
  exact eq_of_limbs ha hb (by omega) (by omega) (by omega) (by omega)
/-- The little nodes. -/
def litN : List Nd := [⟨3, 0, 0, 0⟩, ⟨1, 0, 0, 3⟩, ⟨7, 0, 1, 0⟩]
noncomputable def litC (_z : Nat) : List Value := Classical.choose (⟨nodesC litN, rfl⟩ : ∃ x : List Value, x = nodesC litN)
theorem litC_def (z : Nat) : litC z = nodesC litN := Classical.choose_spec (⟨nodesC litN, rfl⟩ : ∃ x : List Value, x = nodesC litN)
theorem lim0 (i : Nat) : limb 0 i = 0 := by simp [limb, hide_eq]
theorem lim3 : limb 3 0 = 3 ∧ limb 3 1 = 0 ∧ limb 3 2 = 0 ∧ limb 3 3 = 0 := by
  refine ⟨?_, ?_, ?_, ?_⟩ <;> simp [limb0, limb1, limb2, limb3]
theorem litC_eq (z : Nat) : litC z = [.int .i64 3, .int .i64 0, .int .i64 0, .int .u64 0, .int .u64 0, .int .u64 0, .int .u64 0, .int .i64 1, .int .i64 0, .int .i64 0, .int .u64 3, .int .u64 0, .int .u64 0, .int .u64 0, .int .i64 7, .int .i64 0, .int .i64 1, .int .u64 0, .int .u64 0, .int .u64 0, .int .u64 0] := by
  rw [litC_def]
  simp only [litN, nodesC, List.flatMap_cons, List.flatMap_nil, ndC, lim0, lim3.1, lim3.2.1, lim3.2.2.1, lim3.2.2.2]
  rfl
theorem lit_top : ∀ x ∈ litN, x.v < top := by
  intro x hx
  simp only [litN, List.mem_cons, List.not_mem_nil, or_false] at hx
  rcases hx with rfl | rfl | rfl <;> simp only [top] <;> omega
end Go.Pl
namespace Go.Proofs.Ytpghmnpbfaichaa
open Go.Sx Go.Pl Go.RowKit
set_option linter.unusedVariables false
theorem sm35t (ad ad2 : Addr) (n cap m cap2 k M : Nat) (x y : Nat) (kt : List It) : ((xgo Try.prog X (bodyOf Try.f35) 26 L10 [] 60 [.t, .ld (.agg [.v (.int .u64 (limb x 0 : Nat)), .v (.int .u64 (limb x 1 : Nat)), .v (.int .u64 (limb x 2 : Nat)), .v (.int .u64 (limb x 3 : Nat))]), .ld (.agg [.v (.int .u64 (limb y 0 : Nat)), .v (.int .u64 (limb y 1 : Nat)), .v (.int .u64 (limb y 2 : Nat)), .v (.int .u64 (limb y 3 : Nat))]), .f] ((.nil)) (.at [0,0,1,0,1,1] :: .rnd [0,0,1,0,1,1] (M + 1) :: kt) ⟨[(5, .v (.int .i64 (k : Int))), (4, .v (.bool false)), (1, .v (.slice (some ad2) m cap2)), (0, .v (.slice (some ad) n cap))], []⟩ [] []).map (trims [5, 4, 1, 0])) =
  some [Leaf2.mk [] [fun _ => decide ((↑k : Int) < (↑n : Int)) = true,
    fun _ => (0 : Int) ≤ (↑k : Int) ∧ (↑k : Int) < (↑n : Int),
    fun _ => true = true, fun M => MCells (fun a => M a) (some (if Int.toNat (↑k : Int) * (4 : Nat) = (0 : Nat) then ad else Addr.mk ad.1 (ad.2 + Int.toNat (↑k : Int) * (4 : Nat)) none)) [Value.int IntKind.u64 (↑(limb x (0 : Nat)) : Int), Value.int IntKind.u64 (↑(limb x (1 : Nat)) : Int), Value.int IntKind.u64 (↑(limb x (2 : Nat)) : Int), Value.int IntKind.u64 (↑(limb x (3 : Nat)) : Int)],
    fun _ => (0 : Int) ≤ (↑k : Int) ∧ (↑k : Int) < (↑m : Int),
    fun _ => true = true, fun M => MCells (fun a => M a) (some (if Int.toNat (↑k : Int) * (4 : Nat) = (0 : Nat) then ad2 else Addr.mk ad2.1 (ad2.2 + Int.toNat (↑k : Int) * (4 : Nat)) none)) [Value.int IntKind.u64 (↑(limb y (0 : Nat)) : Int), Value.int IntKind.u64 (↑(limb y (1 : Nat)) : Int), Value.int IntKind.u64 (↑(limb y (2 : Nat)) : Int), Value.int IntKind.u64 (↑(limb y (3 : Nat)) : Int)],
    fun _ => (!decide (elL x = elL y)) = false] (It.rnd [(0 : Nat), (0 : Nat), (1 : Nat), (0 : Nat), (1 : Nat), (1 : Nat)] (M + (1 : Nat)) :: kt) (St.mk [((5 : Nat), SV.v (Value.int IntKind.i64 (IntKind.wrap IntKind.i64 ((↑k : Int) + (1 : Int))))), ((4 : Nat), SV.v (Value.bool false)), ((1 : Nat), SV.v (Value.slice (some ad2) m cap2)), ((0 : Nat), SV.v (Value.slice (some ad) n cap))] [])]
  := by kernel_rfl

theorem sm35f (ad ad2 : Addr) (n cap m cap2 k M : Nat) (x y : Nat) : (((xgo Try.prog X (bodyOf Try.f35) 26 L10 [] 60 [.t, .ld (.agg [.v (.int .u64 (limb x 0 : Nat)), .v (.int .u64 (limb x 1 : Nat)), .v (.int .u64 (limb x 2 : Nat)), .v (.int .u64 (limb x 3 : Nat))]), .ld (.agg [.v (.int .u64 (limb y 0 : Nat)), .v (.int .u64 (limb y 1 : Nat)), .v (.int .u64 (limb y 2 : Nat)), .v (.int .u64 (limb y 3 : Nat))]), .t] ((.nil)) [.at [0,0,1,0,1,1], .rnd [0,0,1,0,1,1] (M + 1), .blk 0, .at [1,1,1]] ⟨[(5, .v (.int .i64 (k : Int))), (4, .v (.bool false)), (1, .v (.slice (some ad2) m cap2)), (0, .v (.slice (some ad) n cap))], []⟩ [] []).bind (ends Try.prog Try.f35.results.toList)).bind plainE) =
  some [EndP.mk [] [fun _ => decide ((↑k : Int) < (↑n : Int)) = true,
    fun _ => (0 : Int) ≤ (↑k : Int) ∧ (↑k : Int) < (↑n : Int),
    fun _ => true = true, fun M => MCells (fun a => M a) (some (if Int.toNat (↑k : Int) * (4 : Nat) = (0 : Nat) then ad else Addr.mk ad.1 (ad.2 + Int.toNat (↑k : Int) * (4 : Nat)) none)) [Value.int IntKind.u64 (↑(limb x (0 : Nat)) : Int), Value.int IntKind.u64 (↑(limb x (1 : Nat)) : Int), Value.int IntKind.u64 (↑(limb x (2 : Nat)) : Int), Value.int IntKind.u64 (↑(limb x (3 : Nat)) : Int)],
    fun _ => (0 : Int) ≤ (↑k : Int) ∧ (↑k : Int) < (↑m : Int),
    fun _ => true = true, fun M => MCells (fun a => M a) (some (if Int.toNat (↑k : Int) * (4 : Nat) = (0 : Nat) then ad2 else Addr.mk ad2.1 (ad2.2 + Int.toNat (↑k : Int) * (4 : Nat)) none)) [Value.int IntKind.u64 (↑(limb y (0 : Nat)) : Int), Value.int IntKind.u64 (↑(limb y (1 : Nat)) : Int), Value.int IntKind.u64 (↑(limb y (2 : Nat)) : Int), Value.int IntKind.u64 (↑(limb y (3 : Nat)) : Int)],
    fun _ => (!decide (elL x = elL y)) = true] (Res.v (Value.bool false))]
  := by kernel_rfl

theorem sm35E (oa ob : Option Addr) (n cap m cap2 k M : Nat) : (((xgo Try.prog X (bodyOf Try.f35) 26 L10 [] 60 [.f] ((.nil)) [.at [0,0,1,0,1,1], .rnd [0,0,1,0,1,1] (M + 1), .blk 0, .at [1,1,1]] ⟨[(5, .v (.int .i64 (k : Int))), (4, .v (.bool false)), (1, .v (.slice ob m cap2)), (0, .v (.slice oa n cap))], []⟩ [] []).bind (ends Try.prog Try.f35.results.toList)).bind plainE) =
  some [EndP.mk [] [fun _ => decide ((↑k : Int) < (↑n : Int)) = false] (Res.v (Value.bool true))]
  := by kernel_rfl

theorem sm35X (oa ob : Option Addr) (n cap m cap2 : Nat) : (((xgo Try.prog X (bodyOf Try.f35) 26 L10 [] 60 [.t] ((.nil)) [.at []] ⟨argsTm 0 [.slice oa n cap, .slice ob m cap2], []⟩ [] []).bind (ends Try.prog Try.f35.results.toList)).bind plainE) =
  some [EndP.mk [] [fun _ => (!(↑n : Int) == (↑m : Int)) = true] (Res.v (Value.bool false))]
  := by kernel_rfl

theorem sm35S (oa ob : Option Addr) (n cap m cap2 : Nat) : ((xgo Try.prog X (bodyOf Try.f35) 26 L10 [] 60 [.f] ((.nil)) [.at []] ⟨argsTm 0 [.slice oa n cap, .slice ob m cap2], []⟩ [] []).map (trims [5, 4, 1, 0])) =
  some [Leaf2.mk [] [fun _ => (!(↑n : Int) == (↑m : Int)) = false] [It.at [(0 : Nat), (1 : Nat), (0 : Nat), (1 : Nat), (1 : Nat)], It.blk (0 : Nat), It.at [(1 : Nat), (1 : Nat), (1 : Nat)]] (St.mk [((5 : Nat), SV.v (Value.int IntKind.i64 (0 : Int))), ((4 : Nat), SV.v (Value.bool false)), ((1 : Nat), SV.v (Value.slice ob m cap2)), ((0 : Nat), SV.v (Value.slice oa n cap))] [])]
  := by kernel_rfl

theorem litr (z : Nat) : (((xgo Try.prog X (bodyOf Try.f64) 6 L10 [] 60 [] ((.nil)) [.at []] ⟨argsTm 0 [], []⟩ [] []).bind (ends Try.prog Try.f64.results.toList)).bind plainE) =
  some [EndP.mk [] [fun _ => [SV.v (Value.int IntKind.i64 (3 : Int)), SV.v (Value.int IntKind.i64 (0 : Int)), SV.v (Value.int IntKind.i64 (0 : Int)), SV.v (Value.int IntKind.u64 (0 : Int)), SV.v (Value.int IntKind.u64 (0 : Int)), SV.v (Value.int IntKind.u64 (0 : Int)), SV.v (Value.int IntKind.u64 (0 : Int)), SV.v (Value.int IntKind.i64 (1 : Int)), SV.v (Value.int IntKind.i64 (0 : Int)), SV.v (Value.int IntKind.i64 (0 : Int)), SV.v (Value.int IntKind.u64 (3 : Int)), SV.v (Value.int IntKind.u64 (0 : Int)), SV.v (Value.int IntKind.u64 (0 : Int)), SV.v (Value.int IntKind.u64 (0 : Int)), SV.v (Value.int IntKind.i64 (7 : Int)), SV.v (Value.int IntKind.i64 (0 : Int)), SV.v (Value.int IntKind.i64 (1 : Int)), SV.v (Value.int IntKind.u64 (0 : Int)), SV.v (Value.int IntKind.u64 (0 : Int)), SV.v (Value.int IntKind.u64 (0 : Int)), SV.v (Value.int IntKind.u64 (0 : Int))] = [SV.v (Value.int IntKind.i64 (3 : Int)), SV.v (Value.int IntKind.i64 (0 : Int)), SV.v (Value.int IntKind.i64 (0 : Int)), SV.v (Value.int IntKind.u64 (0 : Int)), SV.v (Value.int IntKind.u64 (0 : Int)), SV.v (Value.int IntKind.u64 (0 : Int)), SV.v (Value.int IntKind.u64 (0 : Int)), SV.v (Value.int IntKind.i64 (1 : Int)), SV.v (Value.int IntKind.i64 (0 : Int)), SV.v (Value.int IntKind.i64 (0 : Int)), SV.v (Value.int IntKind.u64 (3 : Int)), SV.v (Value.int IntKind.u64 (0 : Int)), SV.v (Value.int IntKind.u64 (0 : Int)), SV.v (Value.int IntKind.u64 (0 : Int)), SV.v (Value.int IntKind.i64 (7 : Int)), SV.v (Value.int IntKind.i64 (0 : Int)), SV.v (Value.int IntKind.i64 (1 : Int)), SV.v (Value.int IntKind.u64 (0 : Int)), SV.v (Value.int IntKind.u64 (0 : Int)), SV.v (Value.int IntKind.u64 (0 : Int)), SV.v (Value.int IntKind.u64 (0 : Int))]] (Res.r (43 : Nat) (7 : Nat) (3 : Nat) [Value.int IntKind.i64 (3 : Int), Value.int IntKind.i64 (0 : Int), Value.int IntKind.i64 (0 : Int), Value.int IntKind.u64 (0 : Int), Value.int IntKind.u64 (0 : Int), Value.int IntKind.u64 (0 : Int), Value.int IntKind.u64 (0 : Int), Value.int IntKind.i64 (1 : Int), Value.int IntKind.i64 (0 : Int), Value.int IntKind.i64 (0 : Int), Value.int IntKind.u64 (3 : Int), Value.int IntKind.u64 (0 : Int), Value.int IntKind.u64 (0 : Int), Value.int IntKind.u64 (0 : Int), Value.int IntKind.i64 (7 : Int), Value.int IntKind.i64 (0 : Int), Value.int IntKind.i64 (1 : Int), Value.int IntKind.u64 (0 : Int), Value.int IntKind.u64 (0 : Int), Value.int IntKind.u64 (0 : Int), Value.int IntKind.u64 (0 : Int)])]
  := by kernel_rfl

noncomputable def stE35 (oa ob : Option Addr) (n cap m cap2 k : Nat) : St := ⟨[(5, .v (.int .i64 (k : Int))), (4, .v (.bool false)), (1, .v (.slice ob m cap2)), (0, .v (.slice oa n cap))], []⟩
theorem sm35_loop {w : World} (oa ob : Option Addr) (n cap m cap2 : Nat) (A B : List Nat) (hn : A.length = n) (hmm : B.length = m) (hbd : n ≤ 4611686018427387903) (hwa : ∀ x ∈ A, x < top) (hwb : ∀ x ∈ B, x < top) (ha : elsC A = [] ∨ MCells (wmem w) oa (elsC A)) (hb : elsC B = [] ∨ MCells (wmem w) ob (elsC B)) (R : Res → Prop) :
    ∀ (l la pa pb : List Nat), A = pa ++ la → B = pb ++ l → pa.length = pb.length → la.length = l.length → R (.v (.bool (eqB la l))) →
    Ok Try.prog (bodyOf Try.f35) 26 (F0 w) w (bodyPost Try.prog Try.f35 fun E w' => ∃ v r, E = .returned v ∧ R r ∧ r.ok w w' v ∧ Below w.heap.size w w') (.rnd [0,0,1,0,1,1] (l.length + 2) :: [.blk 0, .at [1,1,1]]) (stE35 oa ob n cap m cap2 pa.length)
  | [], la, pa, pb, heA, heB, hpp, hll, hR => by
    have hl : pa.length = n := by rw [← hn, heA]; simp [hll]
    have h0 : la = [] := List.eq_nil_of_length_eq_zero (by rw [hll]; rfl)
    rw [h0, eqB_true rfl] at hR
    refine Ok.rnd (ok_plain hm (F0.mono w) (fun _ h => h) 60 _ _ _ _ (sm35E oa ob n cap m cap2 pa.length 0) ⟨fun _ => ⟨?_, hR⟩, trivial⟩)
    simp only [hold_cons, hold_nil, and_true]
    exact fun _ _ => decide_eq_false (by omega)
  | y :: l, la0, pa, pb, heA, heB, hpp, hll, hR => by
    obtain ⟨x, la, rfl⟩ : ∃ x la, la0 = x :: la := by
      cases la0 with
      | nil => simp at hll
      | cons x la => exact ⟨x, la, rfl⟩
    have hla : la.length = l.length := by simpa using hll
    have hl : pa.length + (la.length + 1) = n := by rw [← hn, heA]; simp
    have hl2 : pb.length + (l.length + 1) = m := by rw [← hmm, heB]; simp
    obtain ⟨ad, rfl, ca⟩ : MCells (wmem w) oa (elsC A) := by
      rcases ha with h | h
      · rw [heA] at h; rw [elsC_append, elsC_cons] at h; simp [elC] at h
      · exact h
    obtain ⟨ad2, rfl, cb⟩ : MCells (wmem w) ob (elsC B) := by
      rcases hb with h | h
      · rw [heB] at h; rw [elsC_append, elsC_cons] at h; simp [elC] at h
      · exact h
    have hx := els_at pa la x (by rw [← heA]; exact ⟨ad, rfl, ca⟩)
    have hx2 := els_at pb l y (by rw [← heB]; exact ⟨ad2, rfl, cb⟩)
    rw [← hpp] at hx2
    have hlen : (pa ++ [x]).length = pa.length + 1 := by simp
    by_cases hs : elL x = elL y
    · have next := sm35_loop (w := w) (some ad) (some ad2) n cap m cap2 A B hn hmm hbd hwa hwb ha hb R l la (pa ++ [x]) (pb ++ [y]) (by rw [heA]; simp) (by rw [heB]; simp) (by simp [hpp]) hla (by rw [← eqB_cons x y la l (elL_inj (hwa x (by rw [heA]; simp)) (hwb y (by rw [heB]; simp)) hs)]; exact hR)
      rw [hlen] at next
      refine Ok.rnd (xgo_trim hm (F0.mono w) finB 60 _ _ _ _ _ _ (sm35t ad ad2 n cap m cap2 pa.length (l.length + 1) x y _) (paidCons (fun _ => ⟨?_, ?_⟩) paidNil))
      · simp only [hold_cons, hold_nil, and_true]
        exact ⟨fun _ _ => decide_eq_true (by omega), fun _ _ => ⟨by omega, by omega⟩, fun _ _ => trivial, hold_cells hx, fun _ _ => ⟨by omega, by omega⟩, fun _ _ => trivial, hold_cells hx2, fun _ _ => by rw [decide_eq_true hs]; rfl⟩
      · simp only [wrap_inc pa.length (by omega)]
        exact ok_mono rfl next
    · rw [eqB_false (by intro h; exact hs (by rw [(List.cons.inj h).1]))] at hR
      refine Ok.rnd (ok_plain hm (F0.mono w) (fun _ h => h) 60 _ _ _ _ (sm35f ad ad2 n cap m cap2 pa.length (l.length + 1) x y) ⟨fun _ => ⟨?_, hR⟩, trivial⟩)
      simp only [hold_cons, hold_nil, and_true]
      exact ⟨fun _ _ => decide_eq_true (by omega), fun _ _ => ⟨by omega, by omega⟩, fun _ _ => trivial, hold_cells hx, fun _ _ => ⟨by omega, by omega⟩, fun _ _ => trivial, hold_cells hx2, fun _ _ => by rw [decide_eq_false hs]; rfl⟩
theorem sm35_ok (oa ob : Option Addr) (n cap m cap2 : Nat) (A B : List Nat) (hn : A.length = n) (hmm : B.length = m) (hbd : n ≤ 4611686018427387903) (hwa : ∀ x ∈ A, x < top) (hwb : ∀ x ∈ B, x < top) (w : World) (ha : elsC A = [] ∨ MCells (wmem w) oa (elsC A)) (hb : elsC B = [] ∨ MCells (wmem w) ob (elsC B)) :
    Calls Try.prog 35 [.slice oa n cap, .slice ob m cap2].toArray w (fun E w' => ∃ v, E = .returned v ∧ Res.ok w w' (.v (.bool (eqB A B))) v ∧ Below w.heap.size w w') := by
  by_cases hnm : n = m
  · refine con_end (calls_of_ok (B := bodyOf Try.f35) (n := 26) Try.func35 (by kernel_rfl) rfl rfl (F := F0 w) (fun _ _ h => h) ?_)
    refine xgo_trim hm (F0.mono w) finB 60 _ _ _ _ _ _ (sm35S oa ob n cap m cap2) (paidCons (fun _ => ⟨?_, ?_⟩) paidNil)
    · simp only [hold_cons, hold_nil, and_true]
      exact fun _ _ => by rw [hnm]; simp
    · exact ok_mono (st := stE35 oa ob n cap m cap2 0) rfl (Ok.loop (B.length + 2) (by kernel_rfl) (sm35_loop oa ob n cap m cap2 A B hn hmm hbd hwa hwb ha hb (fun r => r = .v (.bool (eqB A B))) B A [] [] rfl rfl rfl (by omega) rfl))
  · rw [eqB_false (by intro h; rw [h] at hn; omega)]
    refine con_end (calls_plain hm Try.func35 (by kernel_rfl) rfl rfl 60 _ _ (sm35X oa ob n cap m cap2) ⟨fun _ => ⟨?_, rfl⟩, trivial⟩)
    simp only [hold_cons, hold_nil, and_true]
    exact fun _ _ => by
      rw [beq_eq_false_iff_ne.2 (by omega)]; rfl
noncomputable def gSm35 : List RV → Option (Res × Prop)
  | [.r n cs, .r m ds] => some (.v (.bool (seB cs ds)), cs = elsC (unEs cs) ∧ (unEs cs).length = n ∧ n ≤ 4611686018427387903 ∧ ds = elsC (unEs ds) ∧ (unEs ds).length = m ∧ (∀ x ∈ unEs cs, x < top) ∧ (∀ x ∈ unEs ds, x < top))
  | _ => none
theorem gSm35_ok (rvs : List RV) (r : Res) (p : Prop) (vs : List Value) (w : World) (hg : gSm35 rvs = some (r, p)) (hp : p) (hv : RVs (wmem w) rvs vs) : Calls Try.prog 35 vs.toArray w (fun E w' => ∃ v, E = .returned v ∧ r.ok w w' v ∧ Below w.heap.size w w') := by
  unfold gSm35 at hg
  split at hg
  · simp only [Option.some.injEq, Prod.mk.injEq] at hg
    obtain ⟨rfl, rfl⟩ := hg
    obtain ⟨hc, hn, hb, hd, hmm, hwa, hwb⟩ := hp
    match vs, hv with
    | [x, y], ⟨⟨oa, cap, h1, h2⟩, ⟨ob, cap2, h3, h4⟩, _⟩ =>
      rw [h1, h3, seB, hidQ_eq]
      rw [hc] at h2
      rw [hd] at h4
      exact sm35_ok oa ob _ cap _ cap2 _ _ hn hmm hb hwa hwb w h2 h4
  · cases hg
noncomputable def gLit (z : Nat) : List RV → Option (Res × Prop)
  | [] => some (.r 43 7 3 (litC z), True)
  | _ => none
theorem gLit_ok (z : Nat) (rvs : List RV) (r : Res) (p : Prop) (vs : List Value) (w : World) (hg : gLit z rvs = some (r, p)) (_hp : p) (hv : RVs (wmem w) rvs vs) : Calls Try.prog 64 vs.toArray w (fun E w' => ∃ v, E = .returned v ∧ r.ok w w' v ∧ Below w.heap.size w w') := by
  unfold gLit at hg
  split at hg
  · simp only [Option.some.injEq, Prod.mk.injEq] at hg
    obtain ⟨rfl, rfl⟩ := hg
    match vs, hv with
    | [], _ =>
      rw [litC_eq]
      refine con_end (calls_plain hm Try.func64 (by kernel_rfl) rfl rfl 60 _ _ (litr 0) ?_)
      lvs
      all_goals first
        | exact rfl
        | (hld
           all_goals (intro _ _; first | exact True.intro | exact rfl | omega))
  · cases hg
noncomputable def L11 (z : Nat) : Con Try.prog := (L10.add 35 gSm35 gSm35_ok).add 64 (gLit z) (gLit_ok z)
end Go.Proofs.Ytpghmnpbfaichaa

namespace Go.Pl
open Go.Sx
theorem lit_ord : ordN 0 litN = true := by decide
theorem lit_deg : degrees litN = [1, 0, 1] := by rw [degrees, if_pos lit_ord]; decide
theorem eAdd0 (a b : Nat) : eAdd 0 a b = (a + b) % 16513537 := by rw [eAdd, hide_eq, fR_eq, pS0]
theorem eMul0 (a b : Nat) : eMul 0 a b = (a * b) % 16513537 := by rw [eMul, hide_eq, fR_eq, pS0]
theorem lit_vals : vlR 0 [(3, 0, 0)] [5] litN = ([5, 3, 15], 0) := by
  rw [vlR, if_neg (by rw [lit_ord]; simp), if_neg (by simp)]
  have h : valsN 0 [(3, 0, 0)] [5] [] litN = some [5, 3, 15] := by
    have h0 : idxF (sameQ 3 0 0) 0 [((3 : Int), (0 : Int), (0 : Int))] = 0 := by decide
    have v0 : valD 0 [(3, 0, 0)] [5] [] ⟨3, 0, 0, 0⟩ = some 5 := by rw [valD_q 0 _ _ _ (by decide), h0]; rfl
    have v1 : valD 0 [(3, 0, 0)] [5] [5] ⟨1, 0, 0, 3⟩ = some 3 := valD_c 0 _ _ _ rfl
    have v2 : valD 0 [(3, 0, 0)] [5] [5, 3] ⟨7, 0, 1, 0⟩ = some 15 := by rw [valD_m 0 _ _ _ rfl, eMul0]; rfl
    have a0 : eAdd 0 5 0 = 5 := eAdd0 5 0
    have a1 : eAdd 0 3 0 = 3 := eAdd0 3 0
    have a2 : eAdd 0 15 0 = 15 := eAdd0 15 0
    rw [litN, valsN_some v0, a0, List.nil_append, valsN_some v1, a1]
    show valsN 0 _ _ [5, 3] _ = _
    rw [valsN_some v2, a2]
    rfl
  rw [h]
theorem unEs5 : unEs [Value.int IntKind.u64 (5 : Int), Value.int IntKind.u64 (0 : Int), Value.int IntKind.u64 (0 : Int), Value.int IntKind.u64 (0 : Int)] = [5] := rfl
theorem unEs3 : unEs [Value.int IntKind.u64 (5 : Int), Value.int IntKind.u64 (0 : Int), Value.int IntKind.u64 (0 : Int), Value.int IntKind.u64 (0 : Int), Value.int IntKind.u64 (3 : Int), Value.int IntKind.u64 (0 : Int), Value.int IntKind.u64 (0 : Int), Value.int IntKind.u64 (0 : Int), Value.int IntKind.u64 (15 : Int), Value.int IntKind.u64 (0 : Int), Value.int IntKind.u64 (0 : Int), Value.int IntKind.u64 (0 : Int)] = [5, 3, 15] := rfl
theorem lim_small (r : Nat) (h : r < 18446744073709551616) : elC r = [.int .u64 (r : Nat), .int .u64 0, .int .u64 0, .int .u64 0] := by
  have := el_small r h
  simp only [el, Value.agg.injEq] at this
  exact congrArg Array.toList this
theorem els5 : elsC [5] = [Value.int IntKind.u64 (5 : Int), Value.int IntKind.u64 (0 : Int), Value.int IntKind.u64 (0 : Int), Value.int IntKind.u64 (0 : Int)] := by
  simp only [elsC, List.flatMap_cons, List.flatMap_nil, lim_small 5 (by omega), List.append_nil]
  rfl
theorem els3 : elsC [5, 3, 15] = [Value.int IntKind.u64 (5 : Int), Value.int IntKind.u64 (0 : Int), Value.int IntKind.u64 (0 : Int), Value.int IntKind.u64 (0 : Int), Value.int IntKind.u64 (3 : Int), Value.int IntKind.u64 (0 : Int), Value.int IntKind.u64 (0 : Int), Value.int IntKind.u64 (0 : Int), Value.int IntKind.u64 (15 : Int), Value.int IntKind.u64 (0 : Int), Value.int IntKind.u64 (0 : Int), Value.int IntKind.u64 (0 : Int)] := by
  simp only [elsC, List.flatMap_cons, List.flatMap_nil, lim_small 5 (by omega), lim_small 3 (by omega), lim_small 15 (by omega), List.append_nil]
  rfl
theorem lit_un (z : Nat) : unNds (unv (mapv (litC z))) = litN := by rw [unv_mapv', litC_def, unNds_nodesC _ lit_top]
end Go.Pl
namespace Go.Proofs.Ytpghmnpbfaichaa
open Go.Sx Go.Pl Go.RowKit
set_option linter.unusedVariables false
theorem aliA (z : Nat) : ((xgo Try.prog X (bodyOf Try.f31) 28 (L11 z) [] 80 [.t] ((.nil)) [.at []] ⟨argsTm 0 [], []⟩ [] []).map (trims [22, 0])) =
  some [Leaf2.mk [seB (unv (mapv (vlL (0 : Int) (unv (mapv (litC z))) [Value.int IntKind.i64 (3 : Int), Value.int IntKind.i64 (0 : Int), Value.int IntKind.i64 (0 : Int)] [Value.int IntKind.u64 (5 : Int), Value.int IntKind.u64 (0 : Int), Value.int IntKind.u64 (0 : Int), Value.int IntKind.u64 (0 : Int)]))) [Value.int IntKind.u64 (5 : Int), Value.int IntKind.u64 (0 : Int), Value.int IntKind.u64 (0 : Int), Value.int IntKind.u64 (0 : Int), Value.int IntKind.u64 (3 : Int), Value.int IntKind.u64 (0 : Int), Value.int IntKind.u64 (0 : Int), Value.int IntKind.u64 (0 : Int), Value.int IntKind.u64 (15 : Int), Value.int IntKind.u64 (0 : Int), Value.int IntKind.u64 (0 : Int), Value.int IntKind.u64 (0 : Int)] = true] [fun _ => True,
    fun _ => mapv (litC z) = mapv (unv (mapv (litC z))),
    fun _ => [SV.v (Value.int IntKind.i64 (3 : Int)), SV.v (Value.int IntKind.i64 (0 : Int)), SV.v (Value.int IntKind.i64 (0 : Int))] = [SV.v (Value.int IntKind.i64 (3 : Int)), SV.v (Value.int IntKind.i64 (0 : Int)), SV.v (Value.int IntKind.i64 (0 : Int))],
    fun _ => [SV.v (Value.int IntKind.u64 (5 : Int)), SV.v (Value.int IntKind.u64 (0 : Int)), SV.v (Value.int IntKind.u64 (0 : Int)), SV.v (Value.int IntKind.u64 (0 : Int))] = [SV.v (Value.int IntKind.u64 (5 : Int)), SV.v (Value.int IntKind.u64 (0 : Int)), SV.v (Value.int IntKind.u64 (0 : Int)), SV.v (Value.int IntKind.u64 (0 : Int))],
    fun _ => ((0 : Int) = (0 : Int) ∨ (0 : Int) = (1 : Int)) ∧ unv (mapv (litC z)) = nodesC (unNds (unv (mapv (litC z)))) ∧ List.length (unNds (unv (mapv (litC z)))) = (3 : Nat) ∧ (3 : Nat) ≤ (4000000000000 : Nat) ∧ (∀ (x : Nd), x ∈ unNds (unv (mapv (litC z))) → x.4 < top) ∧ [Value.int IntKind.i64 (3 : Int), Value.int IntKind.i64 (0 : Int), Value.int IntKind.i64 (0 : Int)] = [Value.int IntKind.i64 (3 : Int), Value.int IntKind.i64 (0 : Int), Value.int IntKind.i64 (0 : Int)] ∧ (1 : Nat) = (1 : Nat) ∧ (1 : Nat) ≤ (4000000000000 : Nat) ∧ [Value.int IntKind.u64 (5 : Int), Value.int IntKind.u64 (0 : Int), Value.int IntKind.u64 (0 : Int), Value.int IntKind.u64 (0 : Int)] = [Value.int IntKind.u64 (↑(limb (5 : Nat) (0 : Nat)) : Int), Value.int IntKind.u64 (↑(limb (5 : Nat) (1 : Nat)) : Int), Value.int IntKind.u64 (↑(limb (5 : Nat) (2 : Nat)) : Int), Value.int IntKind.u64 (↑(limb (5 : Nat) (3 : Nat)) : Int)] ∧ (1 : Nat) = (1 : Nat) ∧ ∀ (x : Nat), x ∈ [(5 : Nat)] → x < top,
    fun _ => (vlE (0 : Int) (unv (mapv (litC z))) [Value.int IntKind.i64 (3 : Int), Value.int IntKind.i64 (0 : Int), Value.int IntKind.i64 (0 : Int)] [Value.int IntKind.u64 (5 : Int), Value.int IntKind.u64 (0 : Int), Value.int IntKind.u64 (0 : Int), Value.int IntKind.u64 (0 : Int)] == (0 : Int)) = true,
    fun _ => mapv (vlL (0 : Int) (unv (mapv (litC z))) [Value.int IntKind.i64 (3 : Int), Value.int IntKind.i64 (0 : Int), Value.int IntKind.i64 (0 : Int)] [Value.int IntKind.u64 (5 : Int), Value.int IntKind.u64 (0 : Int), Value.int IntKind.u64 (0 : Int), Value.int IntKind.u64 (0 : Int)]) = mapv (unv (mapv (vlL (0 : Int) (unv (mapv (litC z))) [Value.int IntKind.i64 (3 : Int), Value.int IntKind.i64 (0 : Int), Value.int IntKind.i64 (0 : Int)] [Value.int IntKind.u64 (5 : Int), Value.int IntKind.u64 (0 : Int), Value.int IntKind.u64 (0 : Int), Value.int IntKind.u64 (0 : Int)]))),
    fun _ => [SV.v (Value.int IntKind.u64 (5 : Int)), SV.v (Value.int IntKind.u64 (0 : Int)), SV.v (Value.int IntKind.u64 (0 : Int)), SV.v (Value.int IntKind.u64 (0 : Int)), SV.v (Value.int IntKind.u64 (3 : Int)), SV.v (Value.int IntKind.u64 (0 : Int)), SV.v (Value.int IntKind.u64 (0 : Int)), SV.v (Value.int IntKind.u64 (0 : Int)), SV.v (Value.int IntKind.u64 (15 : Int)), SV.v (Value.int IntKind.u64 (0 : Int)), SV.v (Value.int IntKind.u64 (0 : Int)), SV.v (Value.int IntKind.u64 (0 : Int))] = [SV.v (Value.int IntKind.u64 (5 : Int)), SV.v (Value.int IntKind.u64 (0 : Int)), SV.v (Value.int IntKind.u64 (0 : Int)), SV.v (Value.int IntKind.u64 (0 : Int)), SV.v (Value.int IntKind.u64 (3 : Int)), SV.v (Value.int IntKind.u64 (0 : Int)), SV.v (Value.int IntKind.u64 (0 : Int)), SV.v (Value.int IntKind.u64 (0 : Int)), SV.v (Value.int IntKind.u64 (15 : Int)), SV.v (Value.int IntKind.u64 (0 : Int)), SV.v (Value.int IntKind.u64 (0 : Int)), SV.v (Value.int IntKind.u64 (0 : Int))],
    fun _ => unv (mapv (vlL (0 : Int) (unv (mapv (litC z))) [Value.int IntKind.i64 (3 : Int), Value.int IntKind.i64 (0 : Int), Value.int IntKind.i64 (0 : Int)] [Value.int IntKind.u64 (5 : Int), Value.int IntKind.u64 (0 : Int), Value.int IntKind.u64 (0 : Int), Value.int IntKind.u64 (0 : Int)])) = elsC (unEs (unv (mapv (vlL (0 : Int) (unv (mapv (litC z))) [Value.int IntKind.i64 (3 : Int), Value.int IntKind.i64 (0 : Int), Value.int IntKind.i64 (0 : Int)] [Value.int IntKind.u64 (5 : Int), Value.int IntKind.u64 (0 : Int), Value.int IntKind.u64 (0 : Int), Value.int IntKind.u64 (0 : Int)])))) ∧ List.length (unEs (unv (mapv (vlL (0 : Int) (unv (mapv (litC z))) [Value.int IntKind.i64 (3 : Int), Value.int IntKind.i64 (0 : Int), Value.int IntKind.i64 (0 : Int)] [Value.int IntKind.u64 (5 : Int), Value.int IntKind.u64 (0 : Int), Value.int IntKind.u64 (0 : Int), Value.int IntKind.u64 (0 : Int)])))) = vlN (0 : Int) (unv (mapv (litC z))) [Value.int IntKind.i64 (3 : Int), Value.int IntKind.i64 (0 : Int), Value.int IntKind.i64 (0 : Int)] [Value.int IntKind.u64 (5 : Int), Value.int IntKind.u64 (0 : Int), Value.int IntKind.u64 (0 : Int), Value.int IntKind.u64 (0 : Int)] ∧ vlN (0 : Int) (unv (mapv (litC z))) [Value.int IntKind.i64 (3 : Int), Value.int IntKind.i64 (0 : Int), Value.int IntKind.i64 (0 : Int)] [Value.int IntKind.u64 (5 : Int), Value.int IntKind.u64 (0 : Int), Value.int IntKind.u64 (0 : Int), Value.int IntKind.u64 (0 : Int)] ≤ (4611686018427387903 : Nat) ∧ [Value.int IntKind.u64 (5 : Int), Value.int IntKind.u64 (0 : Int), Value.int IntKind.u64 (0 : Int), Value.int IntKind.u64 (0 : Int), Value.int IntKind.u64 (3 : Int), Value.int IntKind.u64 (0 : Int), Value.int IntKind.u64 (0 : Int), Value.int IntKind.u64 (0 : Int), Value.int IntKind.u64 (15 : Int), Value.int IntKind.u64 (0 : Int), Value.int IntKind.u64 (0 : Int), Value.int IntKind.u64 (0 : Int)] = [Value.int IntKind.u64 (↑(limb (5 : Nat) (0 : Nat)) : Int), Value.int IntKind.u64 (↑(limb (5 : Nat) (1 : Nat)) : Int), Value.int IntKind.u64 (↑(limb (5 : Nat) (2 : Nat)) : Int), Value.int IntKind.u64 (↑(limb (5 : Nat) (3 : Nat)) : Int), Value.int IntKind.u64 (↑(limb (3 : Nat) (0 : Nat)) : Int), Value.int IntKind.u64 (↑(limb (3 : Nat) (1 : Nat)) : Int), Value.int IntKind.u64 (↑(limb (3 : Nat) (2 : Nat)) : Int), Value.int IntKind.u64 (↑(limb (3 : Nat) (3 : Nat)) : Int), Value.int IntKind.u64 (↑(limb (15 : Nat) (0 : Nat)) : Int), Value.int IntKind.u64 (↑(limb (15 : Nat) (1 : Nat)) : Int), Value.int IntKind.u64 (↑(limb (15 : Nat) (2 : Nat)) : Int), Value.int IntKind.u64 (↑(limb (15 : Nat) (3 : Nat)) : Int)] ∧ (3 : Nat) = (3 : Nat) ∧ (∀ (x : Nat), x ∈ unEs (unv (mapv (vlL (0 : Int) (unv (mapv (litC z))) [Value.int IntKind.i64 (3 : Int), Value.int IntKind.i64 (0 : Int), Value.int IntKind.i64 (0 : Int)] [Value.int IntKind.u64 (5 : Int), Value.int IntKind.u64 (0 : Int), Value.int IntKind.u64 (0 : Int), Value.int IntKind.u64 (0 : Int)]))) → x < top) ∧ ∀ (x : Nat), x ∈ [(5 : Nat), (3 : Nat), (15 : Nat)] → x < top] [It.ops [(0 : Nat), (1 : Nat), (1 : Nat)] (11 : Nat), It.at [(1 : Nat), (1 : Nat), (1 : Nat)]] (St.mk [((22 : Nat), SV.v (Value.bool (seB (unv (mapv (vlL (0 : Int) (unv (mapv (litC z))) [Value.int IntKind.i64 (3 : Int), Value.int IntKind.i64 (0 : Int), Value.int IntKind.i64 (0 : Int)] [Value.int IntKind.u64 (5 : Int), Value.int IntKind.u64 (0 : Int), Value.int IntKind.u64 (0 : Int), Value.int IntKind.u64 (0 : Int)]))) [Value.int IntKind.u64 (5 : Int), Value.int IntKind.u64 (0 : Int), Value.int IntKind.u64 (0 : Int), Value.int IntKind.u64 (0 : Int), Value.int IntKind.u64 (3 : Int), Value.int IntKind.u64 (0 : Int), Value.int IntKind.u64 (0 : Int), Value.int IntKind.u64 (0 : Int), Value.int IntKind.u64 (15 : Int), Value.int IntKind.u64 (0 : Int), Value.int IntKind.u64 (0 : Int), Value.int IntKind.u64 (0 : Int)]))), ((0 : Nat), SV.v (Value.bool false))] [HO.row (43 : Nat) (7 : Nat) (3 : Nat) (mapv (litC z)), HO.row (63 : Nat) (3 : Nat) (1 : Nat) [SV.v (Value.int IntKind.i64 (3 : Int)), SV.v (Value.int IntKind.i64 (0 : Int)), SV.v (Value.int IntKind.i64 (0 : Int))], HO.row (41 : Nat) (4 : Nat) (1 : Nat) [SV.v (Value.int IntKind.u64 (5 : Int)), SV.v (Value.int IntKind.u64 (0 : Int)), SV.v (Value.int IntKind.u64 (0 : Int)), SV.v (Value.int IntKind.u64 (0 : Int))], HO.row (41 : Nat) (4 : Nat) (vlN (0 : Int) (unv (mapv (litC z))) [Value.int IntKind.i64 (3 : Int), Value.int IntKind.i64 (0 : Int), Value.int IntKind.i64 (0 : Int)] [Value.int IntKind.u64 (5 : Int), Value.int IntKind.u64 (0 : Int), Value.int IntKind.u64 (0 : Int), Value.int IntKind.u64 (0 : Int)]) (mapv (vlL (0 : Int) (unv (mapv (litC z))) [Value.int IntKind.i64 (3 : Int), Value.int IntKind.i64 (0 : Int), Value.int IntKind.i64 (0 : Int)] [Value.int IntKind.u64 (5 : Int), Value.int IntKind.u64 (0 : Int), Value.int IntKind.u64 (0 : Int), Value.int IntKind.u64 (0 : Int)])), HO.row (41 : Nat) (4 : Nat) (3 : Nat) [SV.v (Value.int IntKind.u64 (5 : Int)), SV.v (Value.int IntKind.u64 (0 : Int)), SV.v (Value.int IntKind.u64 (0 : Int)), SV.v (Value.int IntKind.u64 (0 : Int)), SV.v (Value.int IntKind.u64 (3 : Int)), SV.v (Value.int IntKind.u64 (0 : Int)), SV.v (Value.int IntKind.u64 (0 : Int)), SV.v (Value.int IntKind.u64 (0 : Int)), SV.v (Value.int IntKind.u64 (15 : Int)), SV.v (Value.int IntKind.u64 (0 : Int)), SV.v (Value.int IntKind.u64 (0 : Int)), SV.v (Value.int IntKind.u64 (0 : Int))]]),
  Leaf2.mk [seB (unv (mapv (vlL (0 : Int) (unv (mapv (litC z))) [Value.int IntKind.i64 (3 : Int), Value.int IntKind.i64 (0 : Int), Value.int IntKind.i64 (0 : Int)] [Value.int IntKind.u64 (5 : Int), Value.int IntKind.u64 (0 : Int), Value.int IntKind.u64 (0 : Int), Value.int IntKind.u64 (0 : Int)]))) [Value.int IntKind.u64 (5 : Int), Value.int IntKind.u64 (0 : Int), Value.int IntKind.u64 (0 : Int), Value.int IntKind.u64 (0 : Int), Value.int IntKind.u64 (3 : Int), Value.int IntKind.u64 (0 : Int), Value.int IntKind.u64 (0 : Int), Value.int IntKind.u64 (0 : Int), Value.int IntKind.u64 (15 : Int), Value.int IntKind.u64 (0 : Int), Value.int IntKind.u64 (0 : Int), Value.int IntKind.u64 (0 : Int)] = false] [fun _ => True,
    fun _ => mapv (litC z) = mapv (unv (mapv (litC z))),
    fun _ => [SV.v (Value.int IntKind.i64 (3 : Int)), SV.v (Value.int IntKind.i64 (0 : Int)), SV.v (Value.int IntKind.i64 (0 : Int))] = [SV.v (Value.int IntKind.i64 (3 : Int)), SV.v (Value.int IntKind.i64 (0 : Int)), SV.v (Value.int IntKind.i64 (0 : Int))],
    fun _ => [SV.v (Value.int IntKind.u64 (5 : Int)), SV.v (Value.int IntKind.u64 (0 : Int)), SV.v (Value.int IntKind.u64 (0 : Int)), SV.v (Value.int IntKind.u64 (0 : Int))] = [SV.v (Value.int IntKind.u64 (5 : Int)), SV.v (Value.int IntKind.u64 (0 : Int)), SV.v (Value.int IntKind.u64 (0 : Int)), SV.v (Value.int IntKind.u64 (0 : Int))],
    fun _ => ((0 : Int) = (0 : Int) ∨ (0 : Int) = (1 : Int)) ∧ unv (mapv (litC z)) = nodesC (unNds (unv (mapv (litC z)))) ∧ List.length (unNds (unv (mapv (litC z)))) = (3 : Nat) ∧ (3 : Nat) ≤ (4000000000000 : Nat) ∧ (∀ (x : Nd), x ∈ unNds (unv (mapv (litC z))) → x.4 < top) ∧ [Value.int IntKind.i64 (3 : Int), Value.int IntKind.i64 (0 : Int), Value.int IntKind.i64 (0 : Int)] = [Value.int IntKind.i64 (3 : Int), Value.int IntKind.i64 (0 : Int), Value.int IntKind.i64 (0 : Int)] ∧ (1 : Nat) = (1 : Nat) ∧ (1 : Nat) ≤ (4000000000000 : Nat) ∧ [Value.int IntKind.u64 (5 : Int), Value.int IntKind.u64 (0 : Int), Value.int IntKind.u64 (0 : Int), Value.int IntKind.u64 (0 : Int)] = [Value.int IntKind.u64 (↑(limb (5 : Nat) (0 : Nat)) : Int), Value.int IntKind.u64 (↑(limb (5 : Nat) (1 : Nat)) : Int), Value.int IntKind.u64 (↑(limb (5 : Nat) (2 : Nat)) : Int), Value.int IntKind.u64 (↑(limb (5 : Nat) (3 : Nat)) : Int)] ∧ (1 : Nat) = (1 : Nat) ∧ ∀ (x : Nat), x ∈ [(5 : Nat)] → x < top,
    fun _ => (vlE (0 : Int) (unv (mapv (litC z))) [Value.int IntKind.i64 (3 : Int), Value.int IntKind.i64 (0 : Int), Value.int IntKind.i64 (0 : Int)] [Value.int IntKind.u64 (5 : Int), Value.int IntKind.u64 (0 : Int), Value.int IntKind.u64 (0 : Int), Value.int IntKind.u64 (0 : Int)] == (0 : Int)) = true,
    fun _ => mapv (vlL (0 : Int) (unv (mapv (litC z))) [Value.int IntKind.i64 (3 : Int), Value.int IntKind.i64 (0 : Int), Value.int IntKind.i64 (0 : Int)] [Value.int IntKind.u64 (5 : Int), Value.int IntKind.u64 (0 : Int), Value.int IntKind.u64 (0 : Int), Value.int IntKind.u64 (0 : Int)]) = mapv (unv (mapv (vlL (0 : Int) (unv (mapv (litC z))) [Value.int IntKind.i64 (3 : Int), Value.int IntKind.i64 (0 : Int), Value.int IntKind.i64 (0 : Int)] [Value.int IntKind.u64 (5 : Int), Value.int IntKind.u64 (0 : Int), Value.int IntKind.u64 (0 : Int), Value.int IntKind.u64 (0 : Int)]))),
    fun _ => [SV.v (Value.int IntKind.u64 (5 : Int)), SV.v (Value.int IntKind.u64 (0 : Int)), SV.v (Value.int IntKind.u64 (0 : Int)), SV.v (Value.int IntKind.u64 (0 : Int)), SV.v (Value.int IntKind.u64 (3 : Int)), SV.v (Value.int IntKind.u64 (0 : Int)), SV.v (Value.int IntKind.u64 (0 : Int)), SV.v (Value.int IntKind.u64 (0 : Int)), SV.v (Value.int IntKind.u64 (15 : Int)), SV.v (Value.int IntKind.u64 (0 : Int)), SV.v (Value.int IntKind.u64 (0 : Int)), SV.v (Value.int IntKind.u64 (0 : Int))] = [SV.v (Value.int IntKind.u64 (5 : Int)), SV.v (Value.int IntKind.u64 (0 : Int)), SV.v (Value.int IntKind.u64 (0 : Int)), SV.v (Value.int IntKind.u64 (0 : Int)), SV.v (Value.int IntKind.u64 (3 : Int)), SV.v (Value.int IntKind.u64 (0 : Int)), SV.v (Value.int IntKind.u64 (0 : Int)), SV.v (Value.int IntKind.u64 (0 : Int)), SV.v (Value.int IntKind.u64 (15 : Int)), SV.v (Value.int IntKind.u64 (0 : Int)), SV.v (Value.int IntKind.u64 (0 : Int)), SV.v (Value.int IntKind.u64 (0 : Int))],
    fun _ => unv (mapv (vlL (0 : Int) (unv (mapv (litC z))) [Value.int IntKind.i64 (3 : Int), Value.int IntKind.i64 (0 : Int), Value.int IntKind.i64 (0 : Int)] [Value.int IntKind.u64 (5 : Int), Value.int IntKind.u64 (0 : Int), Value.int IntKind.u64 (0 : Int), Value.int IntKind.u64 (0 : Int)])) = elsC (unEs (unv (mapv (vlL (0 : Int) (unv (mapv (litC z))) [Value.int IntKind.i64 (3 : Int), Value.int IntKind.i64 (0 : Int), Value.int IntKind.i64 (0 : Int)] [Value.int IntKind.u64 (5 : Int), Value.int IntKind.u64 (0 : Int), Value.int IntKind.u64 (0 : Int), Value.int IntKind.u64 (0 : Int)])))) ∧ List.length (unEs (unv (mapv (vlL (0 : Int) (unv (mapv (litC z))) [Value.int IntKind.i64 (3 : Int), Value.int IntKind.i64 (0 : Int), Value.int IntKind.i64 (0 : Int)] [Value.int IntKind.u64 (5 : Int), Value.int IntKind.u64 (0 : Int), Value.int IntKind.u64 (0 : Int), Value.int IntKind.u64 (0 : Int)])))) = vlN (0 : Int) (unv (mapv (litC z))) [Value.int IntKind.i64 (3 : Int), Value.int IntKind.i64 (0 : Int), Value.int IntKind.i64 (0 : Int)] [Value.int IntKind.u64 (5 : Int), Value.int IntKind.u64 (0 : Int), Value.int IntKind.u64 (0 : Int), Value.int IntKind.u64 (0 : Int)] ∧ vlN (0 : Int) (unv (mapv (litC z))) [Value.int IntKind.i64 (3 : Int), Value.int IntKind.i64 (0 : Int), Value.int IntKind.i64 (0 : Int)] [Value.int IntKind.u64 (5 : Int), Value.int IntKind.u64 (0 : Int), Value.int IntKind.u64 (0 : Int), Value.int IntKind.u64 (0 : Int)] ≤ (4611686018427387903 : Nat) ∧ [Value.int IntKind.u64 (5 : Int), Value.int IntKind.u64 (0 : Int), Value.int IntKind.u64 (0 : Int), Value.int IntKind.u64 (0 : Int), Value.int IntKind.u64 (3 : Int), Value.int IntKind.u64 (0 : Int), Value.int IntKind.u64 (0 : Int), Value.int IntKind.u64 (0 : Int), Value.int IntKind.u64 (15 : Int), Value.int IntKind.u64 (0 : Int), Value.int IntKind.u64 (0 : Int), Value.int IntKind.u64 (0 : Int)] = [Value.int IntKind.u64 (↑(limb (5 : Nat) (0 : Nat)) : Int), Value.int IntKind.u64 (↑(limb (5 : Nat) (1 : Nat)) : Int), Value.int IntKind.u64 (↑(limb (5 : Nat) (2 : Nat)) : Int), Value.int IntKind.u64 (↑(limb (5 : Nat) (3 : Nat)) : Int), Value.int IntKind.u64 (↑(limb (3 : Nat) (0 : Nat)) : Int), Value.int IntKind.u64 (↑(limb (3 : Nat) (1 : Nat)) : Int), Value.int IntKind.u64 (↑(limb (3 : Nat) (2 : Nat)) : Int), Value.int IntKind.u64 (↑(limb (3 : Nat) (3 : Nat)) : Int), Value.int IntKind.u64 (↑(limb (15 : Nat) (0 : Nat)) : Int), Value.int IntKind.u64 (↑(limb (15 : Nat) (1 : Nat)) : Int), Value.int IntKind.u64 (↑(limb (15 : Nat) (2 : Nat)) : Int), Value.int IntKind.u64 (↑(limb (15 : Nat) (3 : Nat)) : Int)] ∧ (3 : Nat) = (3 : Nat) ∧ (∀ (x : Nat), x ∈ unEs (unv (mapv (vlL (0 : Int) (unv (mapv (litC z))) [Value.int IntKind.i64 (3 : Int), Value.int IntKind.i64 (0 : Int), Value.int IntKind.i64 (0 : Int)] [Value.int IntKind.u64 (5 : Int), Value.int IntKind.u64 (0 : Int), Value.int IntKind.u64 (0 : Int), Value.int IntKind.u64 (0 : Int)]))) → x < top) ∧ ∀ (x : Nat), x ∈ [(5 : Nat), (3 : Nat), (15 : Nat)] → x < top,
    fun _ => seB (unv (mapv (vlL (0 : Int) (unv (mapv (litC z))) [Value.int IntKind.i64 (3 : Int), Value.int IntKind.i64 (0 : Int), Value.int IntKind.i64 (0 : Int)] [Value.int IntKind.u64 (5 : Int), Value.int IntKind.u64 (0 : Int), Value.int IntKind.u64 (0 : Int), Value.int IntKind.u64 (0 : Int)]))) [Value.int IntKind.u64 (5 : Int), Value.int IntKind.u64 (0 : Int), Value.int IntKind.u64 (0 : Int), Value.int IntKind.u64 (0 : Int), Value.int IntKind.u64 (3 : Int), Value.int IntKind.u64 (0 : Int), Value.int IntKind.u64 (0 : Int), Value.int IntKind.u64 (0 : Int), Value.int IntKind.u64 (15 : Int), Value.int IntKind.u64 (0 : Int), Value.int IntKind.u64 (0 : Int), Value.int IntKind.u64 (0 : Int)] = false] [It.ret] (St.mk [((22 : Nat), SV.bl false), ((0 : Nat), SV.v (Value.bool false))] [HO.row (43 : Nat) (7 : Nat) (3 : Nat) (mapv (litC z)), HO.row (63 : Nat) (3 : Nat) (1 : Nat) [SV.v (Value.int IntKind.i64 (3 : Int)), SV.v (Value.int IntKind.i64 (0 : Int)), SV.v (Value.int IntKind.i64 (0 : Int))], HO.row (41 : Nat) (4 : Nat) (1 : Nat) [SV.v (Value.int IntKind.u64 (5 : Int)), SV.v (Value.int IntKind.u64 (0 : Int)), SV.v (Value.int IntKind.u64 (0 : Int)), SV.v (Value.int IntKind.u64 (0 : Int))], HO.row (41 : Nat) (4 : Nat) (vlN (0 : Int) (unv (mapv (litC z))) [Value.int IntKind.i64 (3 : Int), Value.int IntKind.i64 (0 : Int), Value.int IntKind.i64 (0 : Int)] [Value.int IntKind.u64 (5 : Int), Value.int IntKind.u64 (0 : Int), Value.int IntKind.u64 (0 : Int), Value.int IntKind.u64 (0 : Int)]) (mapv (vlL (0 : Int) (unv (mapv (litC z))) [Value.int IntKind.i64 (3 : Int), Value.int IntKind.i64 (0 : Int), Value.int IntKind.i64 (0 : Int)] [Value.int IntKind.u64 (5 : Int), Value.int IntKind.u64 (0 : Int), Value.int IntKind.u64 (0 : Int), Value.int IntKind.u64 (0 : Int)])), HO.row (41 : Nat) (4 : Nat) (3 : Nat) [SV.v (Value.int IntKind.u64 (5 : Int)), SV.v (Value.int IntKind.u64 (0 : Int)), SV.v (Value.int IntKind.u64 (0 : Int)), SV.v (Value.int IntKind.u64 (0 : Int)), SV.v (Value.int IntKind.u64 (3 : Int)), SV.v (Value.int IntKind.u64 (0 : Int)), SV.v (Value.int IntKind.u64 (0 : Int)), SV.v (Value.int IntKind.u64 (0 : Int)), SV.v (Value.int IntKind.u64 (15 : Int)), SV.v (Value.int IntKind.u64 (0 : Int)), SV.v (Value.int IntKind.u64 (0 : Int)), SV.v (Value.int IntKind.u64 (0 : Int))]])]
  := by kernel_rfl

theorem aliB (z : Nat) : (((xgo Try.prog X (bodyOf Try.f31) 28 (L11 z) [] 80 [] ((.nil)) [.ops [0,1,1] 12, .at [1,1,1]] ⟨[(23, .o 0), (22, .bl true), (0, .v (.bool false))], [.row 43 7 3 (mapv (litC z))]⟩ [] []).bind (ends Try.prog Try.f31.results.toList)).bind plainE) =
  some [EndP.mk [] [fun _ => mapv (litC z) = mapv (unv (mapv (litC z))), fun x => unv (mapv (litC z)) = nodesC (unNds (unv (mapv (litC z)))) ∧ List.length (unNds (unv (mapv (litC z)))) = (3 : Nat) ∧ (3 : Nat) ≤ (4398046511104 : Nat) ∧ ∀ (x : Nd), x ∈ unNds (unv (mapv (litC z))) → x.4 < top,
    fun _ => mapv (dgL (unv (mapv (litC z)))) = mapv (unv (mapv (dgL (unv (mapv (litC z)))))),
    fun _ => [SV.v (Value.int IntKind.i64 (1 : Int)), SV.v (Value.int IntKind.i64 (0 : Int)), SV.v (Value.int IntKind.i64 (1 : Int))] = [SV.v (Value.int IntKind.i64 (1 : Int)), SV.v (Value.int IntKind.i64 (0 : Int)), SV.v (Value.int IntKind.i64 (1 : Int))],
    fun _ => unv (mapv (dgL (unv (mapv (litC z))))) = intsC (unIs (unv (mapv (dgL (unv (mapv (litC z))))))) ∧ List.length (unIs (unv (mapv (dgL (unv (mapv (litC z))))))) = dgN (unv (mapv (litC z))) ∧ dgN (unv (mapv (litC z))) ≤ (4611686018427387903 : Nat) ∧ [Value.int IntKind.i64 (1 : Int), Value.int IntKind.i64 (0 : Int), Value.int IntKind.i64 (1 : Int)] = [Value.int IntKind.i64 (1 : Int), Value.int IntKind.i64 (0 : Int), Value.int IntKind.i64 (1 : Int)] ∧ (3 : Nat) = (3 : Nat)] (Res.v (Value.bool (siB (unv (mapv (dgL (unv (mapv (litC z)))))) [Value.int IntKind.i64 (1 : Int), Value.int IntKind.i64 (0 : Int), Value.int IntKind.i64 (1 : Int)])))]
  := by kernel_rfl

def konst (args : List Value) (r : Res) : List RV → Option (Res × Prop) := fun rvs => some (r, rvs = args.map RV.v)
theorem rvs_konst {M : Mem} : ∀ (args vs : List Value), RVs M (args.map RV.v) vs → vs = args
  | [], [], _ => rfl
  | [], _ :: _, h => by cases h
  | _ :: _, [], h => by cases h
  | a :: r, v :: vs, h => by rw [h.1, rvs_konst r vs h.2]
theorem konst_ok {f : FuncId} {args : List Value} {r0 : Res} (h : ∀ w, Calls Try.prog f args.toArray w (fun E w' => ∃ v, E = .returned v ∧ Res.ok w w' r0 v ∧ Below w.heap.size w w')) :
    ∀ rvs r p vs w, konst args r0 rvs = some (r, p) → p → RVs (wmem w) rvs vs → Calls Try.prog f vs.toArray w (fun E w' => ∃ v, E = .returned v ∧ r.ok w w' v ∧ Below w.heap.size w w') := by
  intro rvs r p vs w hg hp hv
  simp only [konst, Option.some.injEq, Prod.mk.injEq] at hg
  obtain ⟨rfl, rfl⟩ := hg
  subst hp
  rw [rvs_konst args vs hv]
  exact h w
theorem alive_ok (w : World) : Calls Try.prog 31 [].toArray w (fun E w' => ∃ v, E = .returned v ∧ Res.ok w w' (.v (.bool true)) v ∧ Below w.heap.size w w') := by
  have z : Nat := 0
  have hq : unQs [Value.int IntKind.i64 (3 : Int), Value.int IntKind.i64 (0 : Int), Value.int IntKind.i64 (0 : Int)] = [(3, 0, 0)] := rfl
  have hE : vlE (0 : Int) (unv (mapv (litC z))) [Value.int IntKind.i64 (3 : Int), Value.int IntKind.i64 (0 : Int), Value.int IntKind.i64 (0 : Int)] [Value.int IntKind.u64 (5 : Int), Value.int IntKind.u64 (0 : Int), Value.int IntKind.u64 (0 : Int), Value.int IntKind.u64 (0 : Int)] = 0 := by
    rw [vlE, hidZ_eq, lit_un, hq, unEs5, lit_vals]
  have hL : vlL (0 : Int) (unv (mapv (litC z))) [Value.int IntKind.i64 (3 : Int), Value.int IntKind.i64 (0 : Int), Value.int IntKind.i64 (0 : Int)] [Value.int IntKind.u64 (5 : Int), Value.int IntKind.u64 (0 : Int), Value.int IntKind.u64 (0 : Int), Value.int IntKind.u64 (0 : Int)] = [Value.int IntKind.u64 (5 : Int), Value.int IntKind.u64 (0 : Int), Value.int IntKind.u64 (0 : Int), Value.int IntKind.u64 (0 : Int), Value.int IntKind.u64 (3 : Int), Value.int IntKind.u64 (0 : Int), Value.int IntKind.u64 (0 : Int), Value.int IntKind.u64 (0 : Int), Value.int IntKind.u64 (15 : Int), Value.int IntKind.u64 (0 : Int), Value.int IntKind.u64 (0 : Int), Value.int IntKind.u64 (0 : Int)] := by
    rw [vlL, lit_un, hq, unEs5, lit_vals]; exact els3
  have hN : vlN (0 : Int) (unv (mapv (litC z))) [Value.int IntKind.i64 (3 : Int), Value.int IntKind.i64 (0 : Int), Value.int IntKind.i64 (0 : Int)] [Value.int IntKind.u64 (5 : Int), Value.int IntKind.u64 (0 : Int), Value.int IntKind.u64 (0 : Int), Value.int IntKind.u64 (0 : Int)] = 3 := by
    rw [vlN, hide_eq, lit_un, hq, unEs5, lit_vals]; rfl
  have hS : seB (unv (mapv (vlL (0 : Int) (unv (mapv (litC z))) [Value.int IntKind.i64 (3 : Int), Value.int IntKind.i64 (0 : Int), Value.int IntKind.i64 (0 : Int)] [Value.int IntKind.u64 (5 : Int), Value.int IntKind.u64 (0 : Int), Value.int IntKind.u64 (0 : Int), Value.int IntKind.u64 (0 : Int)]))) [Value.int IntKind.u64 (5 : Int), Value.int IntKind.u64 (0 : Int), Value.int IntKind.u64 (0 : Int), Value.int IntKind.u64 (0 : Int), Value.int IntKind.u64 (3 : Int), Value.int IntKind.u64 (0 : Int), Value.int IntKind.u64 (0 : Int), Value.int IntKind.u64 (0 : Int), Value.int IntKind.u64 (15 : Int), Value.int IntKind.u64 (0 : Int), Value.int IntKind.u64 (0 : Int), Value.int IntKind.u64 (0 : Int)] = true := by
    rw [hL, unv_mapv']; exact seB_self _
  have hlc : unv (mapv (litC z)) = nodesC (unNds (unv (mapv (litC z)))) := by rw [lit_un, unv_mapv', litC_def]
  have hD : dgL (unv (mapv (litC z))) = [.int .i64 1, .int .i64 0, .int .i64 1] := by rw [dgL, lit_un, lit_deg]; rfl
  have hDN : dgN (unv (mapv (litC z))) = 3 := by rw [dgN, hide_eq, lit_un, lit_deg]; rfl
  have t5 : (5 : Nat) < top := by simp only [top]; omega
  have t3 : (3 : Nat) < top := by simp only [top]; omega
  have t15 : (15 : Nat) < top := by simp only [top]; omega
  have e3top : ∀ x ∈ ([5, 3, 15] : List Nat), x < top := by
    intro x hx
    simp only [List.mem_cons, List.not_mem_nil, or_false] at hx
    rcases hx with rfl | rfl | rfl <;> assumption
  refine con_end (calls_of_ok (B := bodyOf Try.f31) (n := 28) Try.func31 (by kernel_rfl) rfl rfl (F := F0 w) (fun _ _ h => h) ?_)
  refine xgo_trim hm (F0.mono w) finB 80 _ _ _ _ _ _ (aliA z) (paidCons (fun has => ⟨?_, ?_⟩) (paidCons (fun has => ?_) paidNil))
  · hld
    all_goals (intro _ _)
    · trivial
    · rw [unv_mapv']
    · rfl
    · rfl
    · refine ⟨.inl rfl, hlc, by rw [lit_un]; rfl, by omega, by rw [lit_un]; exact lit_top, rfl, rfl, by omega, els5.symm, rfl, fun x hx => by rw [List.mem_singleton] at hx; rw [hx]; exact t5⟩
    · rw [hE]; rfl
    · rw [hL, unv_mapv']
    · rfl
    · rw [hN, hL, unv_mapv']; exact ⟨els3.symm, rfl, by omega, els3.symm, rfl, e3top, e3top⟩
  · refine Ok.weaken (st' := ⟨[(22, .v (.bool true)), (0, .v (.bool false))], []⟩) (F0.mono w) [] ⟨congrArg (fun b => some (SV.v (.bool b))) hS, rfl, trivial⟩ trivial rfl ⟨by simp [wsAllT, ws], trivial⟩ ?_
    refine res_sound (D := [.t]) (sd := [fun _ => true = true]) (f := 64) (args := []) (dst := some 23) (it' := .ops [0,1,1] 12) (st1 := ⟨[(22, .bl true), (0, .v (.bool false))], []⟩) (st2 := ⟨[(23, .o 0), (22, .bl true), (0, .v (.bool false))], [.row 43 7 3 (mapv (litC z))]⟩) (F0.mono w) (by kernel_rfl) (hold_cons.2 ⟨fun _ _ => rfl, hold_nil.2 trivial⟩) (.r 43 7 3 (litC z)) (by kernel_rfl) (fun e' w' _ => gLit_ok z [] _ _ [] w' rfl trivial trivial) ?_
    refine ok_plain hm (F0.mono w) (fun _ h => h) 80 _ _ _ _ (aliB z) ?_
    lvs
    · hld
      all_goals (intro _ _)
      · rw [unv_mapv']
      · exact ⟨hlc, by rw [lit_un]; rfl, by omega, by rw [lit_un]; exact lit_top⟩
      · rw [hD, unv_mapv']
      · rfl
      · rw [hD, hDN, unv_mapv']; exact ⟨rfl, rfl, by omega, rfl, rfl⟩
    · rw [hD, unv_mapv']
      exact congrArg (fun b => Res.v (.bool b)) (siB_self _)
  · exfalso
    have h := has _ List.mem_cons_self
    rw [hS] at h
    cases h
noncomputable def L12 (z : Nat) : Con Try.prog := (L11 z).add 31 (konst [] (.v (.bool true))) (konst_ok alive_ok)
end Go.Proofs.Ytpghmnpbfaichaa
