/- The texts Z86 .. Z81 of this proof, one behind the other. -/
import Derived.Test.YtlmjdcbhpffanaaM4
import Derived.Test.YtlmjdcbhpffanaaM1
/- SheetGates: the law. -/
namespace Go.Pl
open Go.Sx
theorem gateR_mem (rows : List (List Nat)) (g i : Int) (x : Int × Int × Int) : ∀ (d : Nat) (r : Int), x ∈ gateR rows g i d r ↔ (x.1 = 1 ∧ x.2.1 = i) ∧ (r ≤ x.2.2 ∧ x.2.2 < r + d) ∧ ¬ eI (gE (gT rows x.2.2.toNat) g.toNat) = [(0 : Int), (0 : Int), (0 : Int), (0 : Int)]
  | 0, r => by
    rw [gateR]
    constructor
    · intro h; cases h
    · rintro ⟨_, h, _⟩; omega
  | d + 1, r => by
    rw [gateR, List.mem_append, gateR_mem rows g i x d (r + 1)]
    by_cases h0 : eI (gE (gT rows r.toNat) g.toNat) = [(0 : Int), (0 : Int), (0 : Int), (0 : Int)]
    · rw [decide_eq_true h0, cond_true]
      constructor
      · rintro (h | ⟨h1, h2, h3⟩)
        · cases h
        · exact ⟨h1, by omega, h3⟩
      · rintro ⟨h1, h2, h3⟩
        refine .inr ⟨h1, ?_, h3⟩
        have : x.2.2 ≠ r := fun e => h3 (by rw [e]; exact h0)
        omega
    · rw [decide_eq_false h0, cond_false, List.mem_singleton]
      constructor
      · rintro (h | ⟨h1, h2, h3⟩)
        · subst h
          exact ⟨⟨rfl, rfl⟩, ⟨by show r ≤ r; omega, by show r < r + ((d + 1 : Nat) : Int); omega⟩, h0⟩
        · exact ⟨h1, by omega, h3⟩
      · rintro ⟨h1, h2, h3⟩
        by_cases e : x.2.2 = r
        · refine .inl ?_
          obtain ⟨a, b, c⟩ := x
          simp only at h1 e
          rw [h1.1, h1.2, e]
        · exact .inr ⟨h1, by omega, h3⟩
theorem gatesF_mem (c : Cir) (k : Int) (rows : List (List Nat)) (x : Int × Int × Int) : ∀ (l : List Int) (i : Int), x ∈ gatesF c k rows i l ↔ ∃ j, j < l.length ∧ x ∈ gateR rows (gI l j) (i + (j : Int)) ((rowsV c k (gI l j)).2 - (rowsV c k (gI l j)).1).toNat (rowsV c k (gI l j)).1
  | [], i => by
    rw [gatesF]
    constructor
    · intro h; cases h
    · rintro ⟨j, h, _⟩; cases h
  | g :: t, i => by
    rw [gatesF, List.mem_append, gatesF_mem c k rows x t (i + 1)]
    constructor
    · rintro (h | ⟨j, hj, h⟩)
      · exact ⟨0, Nat.zero_lt_succ _, by rw [show i + ((0 : Nat) : Int) = i by omega]; exact h⟩
      · exact ⟨j + 1, Nat.succ_lt_succ hj, by rw [show i + ((j + 1 : Nat) : Int) = i + 1 + (j : Int) by omega]; exact h⟩
    · rintro ⟨j, hj, h⟩
      cases j with
      | zero => rw [show i + ((0 : Nat) : Int) = i by omega] at h; exact .inl h
      | succ j => rw [show i + ((j + 1 : Nat) : Int) = i + 1 + (j : Int) by omega] at h; exact .inr ⟨j, Nat.lt_of_succ_lt_succ hj, h⟩
theorem looksF_kind (rows : List (List Nat)) : ∀ (l : List (List Int × List Int)) (i : Int), ∀ x ∈ looksF rows i l, x.1 = 2
  | [], i, x, h => by rw [looksF] at h; cases h
  | y :: t, i, x, h => by
    rw [looksF] at h
    rcases List.mem_append.1 h with h | h
    · obtain ⟨r, _, rfl⟩ := List.mem_map.1 h; rfl
    · exact looksF_kind rows t _ x h
theorem copF_kind (c : Cir) (s : Sht) (so : Int) : ∀ (l : List (Int × Int × Int × Int)) (i : Int), ∀ x ∈ copF c s so i l, x.1 = 3
  | [], i, x, h => by rw [copF] at h; cases h
  | y :: t, i, x, h => by
    rw [copF] at h
    rcases List.mem_append.1 h with h | h
    · cases hb : decide (eI (cellV c s so y.1 y.2.1) = eI (cellV c s so y.2.2.1 y.2.2.2)) with
      | true => rw [hb] at h; cases h
      | false => rw [hb, cond_false, List.mem_singleton] at h; rw [h]
    · exact copF_kind c s so t _ x h
theorem rowsA_get (c : Cir) (s : Sht) (so k : Int) {n r : Nat} (h : r < n) : gT (rowsA c s so k n) r = rowV c s so k (qsN [] c.nodes) (r : Int) := by
  rw [gT, List.getD_eq_getElem?_getD, rowsA, List.getElem?_map, List.getElem?_range h]; rfl
theorem flt_mem {c : Cir} (s : Sht) (so : Int) {k : Int} {i r : Nat} (hi : i < c.gates.length) (hr : (r : Int) < usN k) : ((1 : Int), (i : Int), (r : Int)) ∈ fltV c s so k ↔ ((rowsV c k (gI c.gates i)).1 ≤ (r : Int) ∧ (r : Int) < (rowsV c k (gI c.gates i)).2) ∧ ¬ eI (gE (rowV c s so k (qsN [] c.nodes) (r : Int)) (gI c.gates i).toNat) = [(0 : Int), (0 : Int), (0 : Int), (0 : Int)] := by
  have hg := rowsA_get c s so k (n := (usN k).toNat) (r := r) (by omega)
  rw [fltV, List.mem_append, List.mem_append, gatesF_mem]
  constructor
  · rintro (⟨j, hj, h⟩ | h | h)
    · rw [gateR_mem] at h
      obtain ⟨⟨_, h1⟩, h2, h3⟩ := h
      have e : j = i := by
        have : (i : Int) = 0 + (j : Int) := h1
        omega
      subst e
      rw [show ((1 : Int), (j : Int), (r : Int)).2.2 = (r : Int) from rfl, Int.toNat_natCast, hg] at h3
      refine ⟨⟨h2.1, ?_⟩, h3⟩
      have h4 : (r : Int) < (rowsV c k (gI c.gates j)).1 + (((rowsV c k (gI c.gates j)).2 - (rowsV c k (gI c.gates j)).1).toNat : Int) := h2.2
      have h5 : (rowsV c k (gI c.gates j)).1 ≤ (r : Int) := h2.1
      omega
    · exact absurd (looksF_kind _ _ _ _ h) (show ¬ ((1 : Int) = 2) by decide)
    · exact absurd (copF_kind _ _ _ _ _ _ h) (show ¬ ((1 : Int) = 3) by decide)
  · rintro ⟨⟨h1, h2⟩, h3⟩
    refine .inl ⟨i, hi, (gateR_mem _ _ _ _ _ _).2 ⟨⟨rfl, by show (i : Int) = 0 + (i : Int); omega⟩, ⟨h1, ?_⟩, ?_⟩⟩
    · show (r : Int) < (rowsV c k (gI c.gates i)).1 + (((rowsV c k (gI c.gates i)).2 - (rowsV c k (gI c.gates i)).1).toNat : Int)
      omega
    · rw [show ((1 : Int), (i : Int), (r : Int)).2.2 = (r : Int) from rfl, Int.toNat_natCast, hg]; exact h3
theorem us_nOf {k : Int} (h1 : 3 ≤ k) (h2 : k ≤ 5) : usN k < nOf k := by
  have : k = 3 ∨ k = 4 ∨ k = 5 := by omega
  rcases this with rfl | rfl | rfl <;> decide +kernel
theorem rowR_right {c : Cir} {s : Sht} {so k : Int} (h0 : fE so = 0) (h1 : fitV c k s = 0) {r : Nat} (hr : (r : Int) < usN k) : rowR c s so k (r : Int) = (rowV c s so k (qsN [] c.nodes) (r : Int), 0) := by
  obtain ⟨_, k3, k5, _⟩ := fitV_zero h1
  have := us_nOf k3 k5
  rw [rowR, if_neg (fun h => h h0), if_neg (fun h => h h1), if_neg (by omega), if_neg (by omega)]
theorem mem_takeQ {os : List (Int × Int × Int)} {j : Nat} (h : j < os.length) (x : Int × Int × Int) : x ∈ os.take (j + 1) ↔ x ∈ os.take j ∨ [(gQ os j).1, (gQ os j).2.1, (gQ os j).2.2] = [x.1, x.2.1, x.2.2] := by
  rw [take_gQ2 h, List.mem_append, List.mem_singleton]
  refine or_congr_right ⟨fun e => by rw [e], fun e => ?_⟩
  simp only [List.cons.injEq, and_true] at e
  obtain ⟨a, b, c⟩ := x
  simp only at e
  refine Prod.ext e.1.symm (Prod.ext e.2.1.symm e.2.2.symm)
end Go.Pl
namespace Go.Proofs.Ytlmjdcbhpffanaa
open Go.Sx Go.Pl
set_option linter.unusedVariables false
set_option maxRecDepth 100000
theorem sgS (c : Cir) (s : Sht) (so k : Int) (K : List It → St → Prop) (R : SV → List HO → Prop) : W (xwp Try.prog X K84 [] 60 (fxOf Try.f9 [] [⟨[0,1,0,1,1,1,1,1,1], [12,9,11,5,7,2,0], []⟩, ⟨[0,1,1,0,0,1,0,0,1,0,1,1,1,1,1,1], [15,14,13,12,9,11,5,7,2,0], []⟩, ⟨[0,1,0,1,0,0,1,0,0,1,1,0,0,1,0,0,1,0,1,1,1,1,1,1], [17,16,15,14,13,12,9,11,5,7,2,0], []⟩]) [] [.at []] ⟨argsS 0 [.v (.int .i64 so), .agg [.v (.int .i64 c.fx), .v (.int .i64 c.ad), .v (.int .i64 c.ins), .x 0 [], .x 1 [], .x 2 [], .x 3 []], .v (.int .i64 k), .agg [.x 4 [], .x 5 [], .x 6 [], .x 7 []]], [.ext false (.s false 7 c.nodes.length (cN c.nodes)), .ext false (.s false 1 c.gates.length (cI c.gates)), .ext false (.s false 2 c.looks.length (cL c.looks)), .ext false (.s false 2 c.eqs.length (cK c.eqs)), .ext false (.s false 1 s.fx.length (cT s.fx)), .ext false (.s false 1 s.ad.length (cT s.ad)), .ext false (.s false 1 s.is.length (cT s.is)), .ext false (.s false 4 s.cp.length (cP s.cp))]⟩ K R) = W (lF c.1 c.2 c.3 (List.length c.4) (List.length c.5) (List.length c.6) (List.length c.7) (List.length s.1) (List.length s.2) (List.length s.3) (List.length s.4) (cN c.4) (cI c.5) (cL c.6) (cK c.7) (cT s.1) (cT s.2) (cT s.3) (cP s.4) fun (c_1 : Cir) (s_1 : Sht) => bif great13 c_1 s_1 then R (SV.v (Value.bool true)) [] else lC c.1 c.2 c.3 (List.length c.4) (List.length c.5) (List.length c.6) (List.length c.7) (cN c.4) (cI c.5) (cL c.6) (cK c.7) fun (c_2 : Cir) => lS (List.length s.1) (List.length s.2) (List.length s.3) (List.length s.4) (cT s.1) (cT s.2) (cT s.3) (cP s.4) fun (s_2 : Sht) => lF c_2.1 c_2.2 c_2.3 (List.length c_2.4) (List.length c_2.5) (List.length c_2.6) (List.length c_2.7) (List.length s_2.1) (List.length s_2.2) (List.length s_2.3) (List.length s_2.4) (cN c_2.4) (cI c_2.5) (cL c_2.6) (cK c_2.7) (cT s_2.1) (cT s_2.2) (cT s_2.3) (cP s_2.4) fun (c_3 : Cir) (s_3 : Sht) => bif !(fltR c_3 s_3 so k).2 == (0 : Int) then R (SV.v (Value.bool ((↑(List.length (fltR c_3 s_3 so k).1) : Int) == (0 : Int)))) [] else (∀ (M : Mem), 4 ≤ 4) ∧ K [It.at [0, 1, 0, 1, 1, 1, 1, 1, 1], It.blk 0, It.at [1, 1, 1, 1, 1, 1, 1]] (St.mk [(12, SV.v (vi64 (0 : Int))), (9, SV.o 0), (11, SV.p 1 0), (5, SV.p 2 0), (7, SV.p 3 0), (2, SV.v (vi64 k)), (0, SV.v (vi64 so))] [HO.rowc 76 3 (List.length (fltR c_3 s_3 so k).1) (Ct.fn (cQ (fltR c_3 s_3 so k).1)), HO.cells [SV.v (vu64 (0 : Int)), SV.v (vu64 (0 : Int)), SV.v (vu64 (0 : Int)), SV.v (vu64 (0 : Int))] 56, HO.cells [SV.v (vi64 c.1), SV.v (vi64 c.2), SV.v (vi64 c.3), SV.x 4 [], SV.x 5 [], SV.x 6 [], SV.x 7 []] 27, HO.cells [SV.x 8 [], SV.x 9 [], SV.x 10 [], SV.x 11 []] 49, HO.ext false (Cell.s false 7 (List.length c.4) (cN c.4)), HO.ext false (Cell.s false 1 (List.length c.5) (cI c.5)), HO.ext false (Cell.s false 2 (List.length c.6) (cL c.6)), HO.ext false (Cell.s false 2 (List.length c.7) (cK c.7)), HO.ext false (Cell.s false 1 (List.length s.1) (cT s.1)), HO.ext false (Cell.s false 1 (List.length s.2) (cT s.2)), HO.ext false (Cell.s false 1 (List.length s.3) (cT s.3)), HO.ext false (Cell.s false 4 (List.length s.4) (cP s.4))])) := by kernel_rfl
theorem sg1 (c : Cir) (s : Sht) (so k : Int) (os : List (Int × Int × Int)) (m : Nat) (i M : Nat) (K : List It → St → Prop) (R : SV → List HO → Prop) : W (xwp Try.prog X K84 [] 60 (fxOf Try.f9 [] [⟨[0,1,0,1,1,1,1,1,1], [12,9,11,5,7,2,0], []⟩, ⟨[0,1,1,0,0,1,0,0,1,0,1,1,1,1,1,1], [15,14,13,12,9,11,5,7,2,0], []⟩, ⟨[0,1,0,1,0,0,1,0,0,1,1,0,0,1,0,0,1,0,1,1,1,1,1,1], [17,16,15,14,13,12,9,11,5,7,2,0], []⟩]) [] (.at [0,0,1,0,1,1,1,1,1,1] :: .rnd [0,0,1,0,1,1,1,1,1,1] M :: [.blk 0, .at [1, 1, 1, 1, 1, 1, 1]]) (St.mk [(12, SV.v (vi64 (i : Int))), (9, SV.o 0), (11, SV.p 1 0), (5, SV.p 2 0), (7, SV.p 3 0), (2, SV.v (vi64 k)), (0, SV.v (vi64 so))] [HO.rowc 76 3 m (Ct.fn (cQ os)), HO.cells [SV.v (vu64 (0 : Int)), SV.v (vu64 (0 : Int)), SV.v (vu64 (0 : Int)), SV.v (vu64 (0 : Int))] 56, HO.cells [SV.v (vi64 c.1), SV.v (vi64 c.2), SV.v (vi64 c.3), SV.x 4 [], SV.x 5 [], SV.x 6 [], SV.x 7 []] 27, HO.cells [SV.x 8 [], SV.x 9 [], SV.x 10 [], SV.x 11 []] 49, HO.ext false (Cell.s false 7 (List.length c.4) (cN c.4)), HO.ext false (Cell.s false 1 (List.length c.5) (cI c.5)), HO.ext false (Cell.s false 2 (List.length c.6) (cL c.6)), HO.ext false (Cell.s false 2 (List.length c.7) (cK c.7)), HO.ext false (Cell.s false 1 (List.length s.1) (cT s.1)), HO.ext false (Cell.s false 1 (List.length s.2) (cT s.2)), HO.ext false (Cell.s false 1 (List.length s.3) (cT s.3)), HO.ext false (Cell.s false 4 (List.length s.4) (cP s.4))]) K R) = W (bif decide ((↑i : Int) < (↑(List.length c.5) : Int)) then (∀ (M : Mem), (0 : Int) ≤ (↑i : Int) ∧ (↑i : Int) < (↑(List.length c.5) : Int)) ∧ (∀ (M : Mem), i < List.length c.5) ∧ lC c.1 c.2 c.3 (List.length c.4) (List.length c.5) (List.length c.6) (List.length c.7) (cN c.4) (cI c.5) (cL c.6) (cK c.7) fun (c_1 : Cir) => lC c_1.1 c_1.2 c_1.3 (List.length c_1.4) (List.length c_1.5) (List.length c_1.6) (List.length c_1.7) (cN c_1.4) (cI c_1.5) (cL c_1.6) (cK c_1.7) fun (c_2 : Cir) => K [It.at [0, 1, 1, 0, 0, 1, 0, 0, 1, 0, 1, 1, 1, 1, 1, 1], It.blk 2, It.blk 1, It.at [1, 1, 0, 0, 1, 0, 1, 1, 1, 1, 1, 1], It.rnd [0, 0, 1, 0, 1, 1, 1, 1, 1, 1] M, It.blk 0, It.at [1, 1, 1, 1, 1, 1, 1]] (St.mk [(15, SV.v (vi64 (0 : Int))), (14, SV.v (vi64 (rowsV c_2 k (gI c.5 i)).2)), (13, SV.v (vi64 (rowsV c_2 k (gI c.5 i)).1)), (12, SV.v (vi64 (↑i : Int))), (9, SV.o 0), (11, SV.p 1 0), (5, SV.p 2 0), (7, SV.p 3 0), (2, SV.v (vi64 k)), (0, SV.v (vi64 so))] [HO.rowc 76 3 m (Ct.fn (cQ os)), HO.cells [SV.v (vu64 (0 : Int)), SV.v (vu64 (0 : Int)), SV.v (vu64 (0 : Int)), SV.v (vu64 (0 : Int))] 56, HO.cells [SV.v (vi64 c.1), SV.v (vi64 c.2), SV.v (vi64 c.3), SV.x 4 [], SV.x 5 [], SV.x 6 [], SV.x 7 []] 27, HO.cells [SV.x 8 [], SV.x 9 [], SV.x 10 [], SV.x 11 []] 49, HO.ext false (Cell.s false 7 (List.length c.4) (cN c.4)), HO.ext false (Cell.s false 1 (List.length c.5) (cI c.5)), HO.ext false (Cell.s false 2 (List.length c.6) (cL c.6)), HO.ext false (Cell.s false 2 (List.length c.7) (cK c.7)), HO.ext false (Cell.s false 1 (List.length s.1) (cT s.1)), HO.ext false (Cell.s false 1 (List.length s.2) (cT s.2)), HO.ext false (Cell.s false 1 (List.length s.3) (cT s.3)), HO.ext false (Cell.s false 4 (List.length s.4) (cP s.4))]) else R (SV.v (Value.bool true)) []) := by kernel_rfl
theorem sg2 (c : Cir) (s : Sht) (so k : Int) (os : List (Int × Int × Int)) (m : Nat) (i r M2 M : Nat) (to fr : Int) (K : List It → St → Prop) (R : SV → List HO → Prop) : W (xwp Try.prog X K84 [] 60 (fxOf Try.f9 [] [⟨[0,1,0,1,1,1,1,1,1], [12,9,11,5,7,2,0], []⟩, ⟨[0,1,1,0,0,1,0,0,1,0,1,1,1,1,1,1], [15,14,13,12,9,11,5,7,2,0], []⟩, ⟨[0,1,0,1,0,0,1,0,0,1,1,0,0,1,0,0,1,0,1,1,1,1,1,1], [17,16,15,14,13,12,9,11,5,7,2,0], []⟩]) [] (.at [0,0,1,1,0,0,1,0,0,1,0,1,1,1,1,1,1] :: .rnd [0,0,1,1,0,0,1,0,0,1,0,1,1,1,1,1,1] M :: [.blk 2, .blk 1, .at [1, 1, 0, 0, 1, 0, 1, 1, 1, 1, 1, 1], .rnd [0, 0, 1, 0, 1, 1, 1, 1, 1, 1] M2, .blk 0, .at [1, 1, 1, 1, 1, 1, 1]]) (St.mk [(15, SV.v (vi64 (r : Int))), (14, SV.v (vi64 to)), (13, SV.v (vi64 fr)), (12, SV.v (vi64 (↑i : Int))), (9, SV.o 0), (11, SV.p 1 0), (5, SV.p 2 0), (7, SV.p 3 0), (2, SV.v (vi64 k)), (0, SV.v (vi64 so))] [HO.rowc 76 3 m (Ct.fn (cQ os)), HO.cells [SV.v (vu64 (0 : Int)), SV.v (vu64 (0 : Int)), SV.v (vu64 (0 : Int)), SV.v (vu64 (0 : Int))] 56, HO.cells [SV.v (vi64 c.1), SV.v (vi64 c.2), SV.v (vi64 c.3), SV.x 4 [], SV.x 5 [], SV.x 6 [], SV.x 7 []] 27, HO.cells [SV.x 8 [], SV.x 9 [], SV.x 10 [], SV.x 11 []] 49, HO.ext false (Cell.s false 7 (List.length c.4) (cN c.4)), HO.ext false (Cell.s false 1 (List.length c.5) (cI c.5)), HO.ext false (Cell.s false 2 (List.length c.6) (cL c.6)), HO.ext false (Cell.s false 2 (List.length c.7) (cK c.7)), HO.ext false (Cell.s false 1 (List.length s.1) (cT s.1)), HO.ext false (Cell.s false 1 (List.length s.2) (cT s.2)), HO.ext false (Cell.s false 1 (List.length s.3) (cT s.3)), HO.ext false (Cell.s false 4 (List.length s.4) (cP s.4))]) K R) = W (bif decide ((↑r : Int) < usN k) then K [It.at [0, 1, 0, 1, 0, 0, 1, 0, 0, 1, 1, 0, 0, 1, 0, 0, 1, 0, 1, 1, 1, 1, 1, 1], It.blk 4, It.at [1, 1, 0, 0, 1, 0, 0, 1, 1, 0, 0, 1, 0, 0, 1, 0, 1, 1, 1, 1, 1, 1], It.blk 3, It.at [1, 1, 0, 0, 1, 1, 0, 0, 1, 0, 0, 1, 0, 1, 1, 1, 1, 1, 1], It.rnd [0, 0, 1, 1, 0, 0, 1, 0, 0, 1, 0, 1, 1, 1, 1, 1, 1] M, It.blk 2, It.blk 1, It.at [1, 1, 0, 0, 1, 0, 1, 1, 1, 1, 1, 1], It.rnd [0, 0, 1, 0, 1, 1, 1, 1, 1, 1] M2, It.blk 0, It.at [1, 1, 1, 1, 1, 1, 1]] (St.mk [(17, SV.v (vi64 (0 : Int))), (16, SV.v (Value.bool false)), (15, SV.v (vi64 (↑r : Int))), (14, SV.v (vi64 to)), (13, SV.v (vi64 fr)), (12, SV.v (vi64 (↑i : Int))), (9, SV.o 0), (11, SV.p 1 0), (5, SV.p 2 0), (7, SV.p 3 0), (2, SV.v (vi64 k)), (0, SV.v (vi64 so))] [HO.rowc 76 3 m (Ct.fn (cQ os)), HO.cells [SV.v (vu64 (0 : Int)), SV.v (vu64 (0 : Int)), SV.v (vu64 (0 : Int)), SV.v (vu64 (0 : Int))] 56, HO.cells [SV.v (vi64 c.1), SV.v (vi64 c.2), SV.v (vi64 c.3), SV.x 4 [], SV.x 5 [], SV.x 6 [], SV.x 7 []] 27, HO.cells [SV.x 8 [], SV.x 9 [], SV.x 10 [], SV.x 11 []] 49, HO.ext false (Cell.s false 7 (List.length c.4) (cN c.4)), HO.ext false (Cell.s false 1 (List.length c.5) (cI c.5)), HO.ext false (Cell.s false 2 (List.length c.6) (cL c.6)), HO.ext false (Cell.s false 2 (List.length c.7) (cK c.7)), HO.ext false (Cell.s false 1 (List.length s.1) (cT s.1)), HO.ext false (Cell.s false 1 (List.length s.2) (cT s.2)), HO.ext false (Cell.s false 1 (List.length s.3) (cT s.3)), HO.ext false (Cell.s false 4 (List.length s.4) (cP s.4))]) else K [It.rnd [0, 0, 1, 0, 1, 1, 1, 1, 1, 1] M2, It.blk 0, It.at [1, 1, 1, 1, 1, 1, 1]] (St.mk [(12, SV.v (vi64 (IntKind.wrap IntKind.i64 ((↑i : Int) + (1 : Int))))), (9, SV.o 0), (11, SV.p 1 0), (5, SV.p 2 0), (7, SV.p 3 0), (2, SV.v (vi64 k)), (0, SV.v (vi64 so))] [HO.rowc 76 3 m (Ct.fn (cQ os)), HO.cells [SV.v (vu64 (0 : Int)), SV.v (vu64 (0 : Int)), SV.v (vu64 (0 : Int)), SV.v (vu64 (0 : Int))] 56, HO.cells [SV.v (vi64 c.1), SV.v (vi64 c.2), SV.v (vi64 c.3), SV.x 4 [], SV.x 5 [], SV.x 6 [], SV.x 7 []] 27, HO.cells [SV.x 8 [], SV.x 9 [], SV.x 10 [], SV.x 11 []] 49, HO.ext false (Cell.s false 7 (List.length c.4) (cN c.4)), HO.ext false (Cell.s false 1 (List.length c.5) (cI c.5)), HO.ext false (Cell.s false 2 (List.length c.6) (cL c.6)), HO.ext false (Cell.s false 2 (List.length c.7) (cK c.7)), HO.ext false (Cell.s false 1 (List.length s.1) (cT s.1)), HO.ext false (Cell.s false 1 (List.length s.2) (cT s.2)), HO.ext false (Cell.s false 1 (List.length s.3) (cT s.3)), HO.ext false (Cell.s false 4 (List.length s.4) (cP s.4))])) := by kernel_rfl
theorem sg3 (c : Cir) (s : Sht) (so k : Int) (os : List (Int × Int × Int)) (m : Nat) (i r j M2 M3 M : Nat) (to fr : Int) (b : Bool) (K : List It → St → Prop) (R : SV → List HO → Prop) : W (xwp Try.prog X K84 [] 60 (fxOf Try.f9 [] [⟨[0,1,0,1,1,1,1,1,1], [12,9,11,5,7,2,0], []⟩, ⟨[0,1,1,0,0,1,0,0,1,0,1,1,1,1,1,1], [15,14,13,12,9,11,5,7,2,0], []⟩, ⟨[0,1,0,1,0,0,1,0,0,1,1,0,0,1,0,0,1,0,1,1,1,1,1,1], [17,16,15,14,13,12,9,11,5,7,2,0], []⟩]) [] (.at [0,0,1,0,1,0,0,1,0,0,1,1,0,0,1,0,0,1,0,1,1,1,1,1,1] :: .rnd [0,0,1,0,1,0,0,1,0,0,1,1,0,0,1,0,0,1,0,1,1,1,1,1,1] M :: [.blk 4, .at [1, 1, 0, 0, 1, 0, 0, 1, 1, 0, 0, 1, 0, 0, 1, 0, 1, 1, 1, 1, 1, 1], .blk 3, .at [1, 1, 0, 0, 1, 1, 0, 0, 1, 0, 0, 1, 0, 1, 1, 1, 1, 1, 1], .rnd [0, 0, 1, 1, 0, 0, 1, 0, 0, 1, 0, 1, 1, 1, 1, 1, 1] M3, .blk 2, .blk 1, .at [1, 1, 0, 0, 1, 0, 1, 1, 1, 1, 1, 1], .rnd [0, 0, 1, 0, 1, 1, 1, 1, 1, 1] M2, .blk 0, .at [1, 1, 1, 1, 1, 1, 1]]) (St.mk [(17, SV.v (vi64 (j : Int))), (16, SV.v (Value.bool b)), (15, SV.v (vi64 (↑r : Int))), (14, SV.v (vi64 to)), (13, SV.v (vi64 fr)), (12, SV.v (vi64 (↑i : Int))), (9, SV.o 0), (11, SV.p 1 0), (5, SV.p 2 0), (7, SV.p 3 0), (2, SV.v (vi64 k)), (0, SV.v (vi64 so))] [HO.rowc 76 3 m (Ct.fn (cQ os)), HO.cells [SV.v (vu64 (0 : Int)), SV.v (vu64 (0 : Int)), SV.v (vu64 (0 : Int)), SV.v (vu64 (0 : Int))] 56, HO.cells [SV.v (vi64 c.1), SV.v (vi64 c.2), SV.v (vi64 c.3), SV.x 4 [], SV.x 5 [], SV.x 6 [], SV.x 7 []] 27, HO.cells [SV.x 8 [], SV.x 9 [], SV.x 10 [], SV.x 11 []] 49, HO.ext false (Cell.s false 7 (List.length c.4) (cN c.4)), HO.ext false (Cell.s false 1 (List.length c.5) (cI c.5)), HO.ext false (Cell.s false 2 (List.length c.6) (cL c.6)), HO.ext false (Cell.s false 2 (List.length c.7) (cK c.7)), HO.ext false (Cell.s false 1 (List.length s.1) (cT s.1)), HO.ext false (Cell.s false 1 (List.length s.2) (cT s.2)), HO.ext false (Cell.s false 1 (List.length s.3) (cT s.3)), HO.ext false (Cell.s false 4 (List.length s.4) (cP s.4))]) K R) = W (bif decide ((↑j : Int) < (↑m : Int)) then bif b then K [It.rnd [0, 0, 1, 0, 1, 0, 0, 1, 0, 0, 1, 1, 0, 0, 1, 0, 0, 1, 0, 1, 1, 1, 1, 1, 1] M, It.blk 4, It.at [1, 1, 0, 0, 1, 0, 0, 1, 1, 0, 0, 1, 0, 0, 1, 0, 1, 1, 1, 1, 1, 1], It.blk 3, It.at [1, 1, 0, 0, 1, 1, 0, 0, 1, 0, 0, 1, 0, 1, 1, 1, 1, 1, 1], It.rnd [0, 0, 1, 1, 0, 0, 1, 0, 0, 1, 0, 1, 1, 1, 1, 1, 1] M3, It.blk 2, It.blk 1, It.at [1, 1, 0, 0, 1, 0, 1, 1, 1, 1, 1, 1], It.rnd [0, 0, 1, 0, 1, 1, 1, 1, 1, 1] M2, It.blk 0, It.at [1, 1, 1, 1, 1, 1, 1]] (St.mk [(17, SV.v (vi64 (IntKind.wrap IntKind.i64 ((↑j : Int) + (1 : Int))))), (16, SV.v (Value.bool true)), (15, SV.v (vi64 (↑r : Int))), (14, SV.v (vi64 to)), (13, SV.v (vi64 fr)), (12, SV.v (vi64 (↑i : Int))), (9, SV.o 0), (11, SV.p 1 0), (5, SV.p 2 0), (7, SV.p 3 0), (2, SV.v (vi64 k)), (0, SV.v (vi64 so))] [HO.rowc 76 3 m (Ct.fn (cQ os)), HO.cells [SV.v (vu64 (0 : Int)), SV.v (vu64 (0 : Int)), SV.v (vu64 (0 : Int)), SV.v (vu64 (0 : Int))] 56, HO.cells [SV.v (vi64 c.1), SV.v (vi64 c.2), SV.v (vi64 c.3), SV.x 4 [], SV.x 5 [], SV.x 6 [], SV.x 7 []] 27, HO.cells [SV.x 8 [], SV.x 9 [], SV.x 10 [], SV.x 11 []] 49, HO.ext false (Cell.s false 7 (List.length c.4) (cN c.4)), HO.ext false (Cell.s false 1 (List.length c.5) (cI c.5)), HO.ext false (Cell.s false 2 (List.length c.6) (cL c.6)), HO.ext false (Cell.s false 2 (List.length c.7) (cK c.7)), HO.ext false (Cell.s false 1 (List.length s.1) (cT s.1)), HO.ext false (Cell.s false 1 (List.length s.2) (cT s.2)), HO.ext false (Cell.s false 1 (List.length s.3) (cT s.3)), HO.ext false (Cell.s false 4 (List.length s.4) (cP s.4))]) else (∀ (M : Mem), (0 : Int) ≤ (↑j : Int) ∧ (↑j : Int) < (↑m : Int)) ∧ (∀ (M : Mem), j < m) ∧ K [It.rnd [0, 0, 1, 0, 1, 0, 0, 1, 0, 0, 1, 1, 0, 0, 1, 0, 0, 1, 0, 1, 1, 1, 1, 1, 1] M, It.blk 4, It.at [1, 1, 0, 0, 1, 0, 0, 1, 1, 0, 0, 1, 0, 0, 1, 0, 1, 1, 1, 1, 1, 1], It.blk 3, It.at [1, 1, 0, 0, 1, 1, 0, 0, 1, 0, 0, 1, 0, 1, 1, 1, 1, 1, 1], It.rnd [0, 0, 1, 1, 0, 0, 1, 0, 0, 1, 0, 1, 1, 1, 1, 1, 1] M3, It.blk 2, It.blk 1, It.at [1, 1, 0, 0, 1, 0, 1, 1, 1, 1, 1, 1], It.rnd [0, 0, 1, 0, 1, 1, 1, 1, 1, 1] M2, It.blk 0, It.at [1, 1, 1, 1, 1, 1, 1]] (St.mk [(17, SV.v (vi64 (IntKind.wrap IntKind.i64 ((↑j : Int) + (1 : Int))))), (16, SV.v (Value.bool (decide ([(gQ os j).1, (gQ os j).2.1, (gQ os j).2.2] = [(1 : Int), (↑i : Int), (↑r : Int)])))), (15, SV.v (vi64 (↑r : Int))), (14, SV.v (vi64 to)), (13, SV.v (vi64 fr)), (12, SV.v (vi64 (↑i : Int))), (9, SV.o 0), (11, SV.p 1 0), (5, SV.p 2 0), (7, SV.p 3 0), (2, SV.v (vi64 k)), (0, SV.v (vi64 so))] [HO.rowc 76 3 m (Ct.fn (cQ os)), HO.cells [SV.v (vu64 (0 : Int)), SV.v (vu64 (0 : Int)), SV.v (vu64 (0 : Int)), SV.v (vu64 (0 : Int))] 56, HO.cells [SV.v (vi64 c.1), SV.v (vi64 c.2), SV.v (vi64 c.3), SV.x 4 [], SV.x 5 [], SV.x 6 [], SV.x 7 []] 27, HO.cells [SV.x 8 [], SV.x 9 [], SV.x 10 [], SV.x 11 []] 49, HO.ext false (Cell.s false 7 (List.length c.4) (cN c.4)), HO.ext false (Cell.s false 1 (List.length c.5) (cI c.5)), HO.ext false (Cell.s false 2 (List.length c.6) (cL c.6)), HO.ext false (Cell.s false 2 (List.length c.7) (cK c.7)), HO.ext false (Cell.s false 1 (List.length s.1) (cT s.1)), HO.ext false (Cell.s false 1 (List.length s.2) (cT s.2)), HO.ext false (Cell.s false 1 (List.length s.3) (cT s.3)), HO.ext false (Cell.s false 4 (List.length s.4) (cP s.4))]) else lC c.1 c.2 c.3 (List.length c.4) (List.length c.5) (List.length c.6) (List.length c.7) (cN c.4) (cI c.5) (cL c.6) (cK c.7) fun (c_1 : Cir) => lS (List.length s.1) (List.length s.2) (List.length s.3) (List.length s.4) (cT s.1) (cT s.2) (cT s.3) (cP s.4) fun (s_1 : Sht) => lF c_1.1 c_1.2 c_1.3 (List.length c_1.4) (List.length c_1.5) (List.length c_1.6) (List.length c_1.7) (List.length s_1.1) (List.length s_1.2) (List.length s_1.3) (List.length s_1.4) (cN c_1.4) (cI c_1.5) (cL c_1.6) (cK c_1.7) (cT s_1.1) (cT s_1.2) (cT s_1.3) (cP s_1.4) fun (c_2 : Cir) (s_2 : Sht) => bif !(rowR c_2 s_2 so k (↑r : Int)).2 == (0 : Int) then R (SV.v (Value.bool false)) [] else bif decide (fr ≤ (↑r : Int)) then bif decide ((↑r : Int) < to) then (∀ (M : Mem), (0 : Int) ≤ (↑i : Int) ∧ (↑i : Int) < (↑(List.length c.5) : Int)) ∧ (∀ (M : Mem), i < List.length c.5) ∧ (∀ (M : Mem), (0 : Int) ≤ gI c.5 i ∧ gI c.5 i < (↑(List.length (rowR c_2 s_2 so k (↑r : Int)).1) : Int)) ∧ (∀ (M : Mem), Int.toNat (gI c.5 i) < List.length (rowR c_2 s_2 so k (↑r : Int)).1) ∧ bif !b == !decide ((eI (gE (rowR c_2 s_2 so k (↑r : Int)).1 (Int.toNat (gI c.5 i)))) = [(0 : Int), (0 : Int), (0 : Int), (0 : Int)]) then R (SV.v (Value.bool false)) [] else K [It.rnd [0, 0, 1, 1, 0, 0, 1, 0, 0, 1, 0, 1, 1, 1, 1, 1, 1] M3, It.blk 2, It.blk 1, It.at [1, 1, 0, 0, 1, 0, 1, 1, 1, 1, 1, 1], It.rnd [0, 0, 1, 0, 1, 1, 1, 1, 1, 1] M2, It.blk 0, It.at [1, 1, 1, 1, 1, 1, 1]] (St.mk [(15, SV.v (vi64 (IntKind.wrap IntKind.i64 ((↑r : Int) + (1 : Int))))), (14, SV.v (vi64 to)), (13, SV.v (vi64 fr)), (12, SV.v (vi64 (↑i : Int))), (9, SV.o 0), (11, SV.p 1 0), (5, SV.p 2 0), (7, SV.p 3 0), (2, SV.v (vi64 k)), (0, SV.v (vi64 so))] [HO.rowc 76 3 m (Ct.fn (cQ os)), HO.cells [SV.v (vu64 (0 : Int)), SV.v (vu64 (0 : Int)), SV.v (vu64 (0 : Int)), SV.v (vu64 (0 : Int))] 56, HO.cells [SV.v (vi64 c.1), SV.v (vi64 c.2), SV.v (vi64 c.3), SV.x 4 [], SV.x 5 [], SV.x 6 [], SV.x 7 []] 27, HO.cells [SV.x 8 [], SV.x 9 [], SV.x 10 [], SV.x 11 []] 49, HO.ext false (Cell.s false 7 (List.length c.4) (cN c.4)), HO.ext false (Cell.s false 1 (List.length c.5) (cI c.5)), HO.ext false (Cell.s false 2 (List.length c.6) (cL c.6)), HO.ext false (Cell.s false 2 (List.length c.7) (cK c.7)), HO.ext false (Cell.s false 1 (List.length s.1) (cT s.1)), HO.ext false (Cell.s false 1 (List.length s.2) (cT s.2)), HO.ext false (Cell.s false 1 (List.length s.3) (cT s.3)), HO.ext false (Cell.s false 4 (List.length s.4) (cP s.4))]) else bif !b == false then R (SV.v (Value.bool false)) [] else K [It.rnd [0, 0, 1, 1, 0, 0, 1, 0, 0, 1, 0, 1, 1, 1, 1, 1, 1] M3, It.blk 2, It.blk 1, It.at [1, 1, 0, 0, 1, 0, 1, 1, 1, 1, 1, 1], It.rnd [0, 0, 1, 0, 1, 1, 1, 1, 1, 1] M2, It.blk 0, It.at [1, 1, 1, 1, 1, 1, 1]] (St.mk [(15, SV.v (vi64 (IntKind.wrap IntKind.i64 ((↑r : Int) + (1 : Int))))), (14, SV.v (vi64 to)), (13, SV.v (vi64 fr)), (12, SV.v (vi64 (↑i : Int))), (9, SV.o 0), (11, SV.p 1 0), (5, SV.p 2 0), (7, SV.p 3 0), (2, SV.v (vi64 k)), (0, SV.v (vi64 so))] [HO.rowc 76 3 m (Ct.fn (cQ os)), HO.cells [SV.v (vu64 (0 : Int)), SV.v (vu64 (0 : Int)), SV.v (vu64 (0 : Int)), SV.v (vu64 (0 : Int))] 56, HO.cells [SV.v (vi64 c.1), SV.v (vi64 c.2), SV.v (vi64 c.3), SV.x 4 [], SV.x 5 [], SV.x 6 [], SV.x 7 []] 27, HO.cells [SV.x 8 [], SV.x 9 [], SV.x 10 [], SV.x 11 []] 49, HO.ext false (Cell.s false 7 (List.length c.4) (cN c.4)), HO.ext false (Cell.s false 1 (List.length c.5) (cI c.5)), HO.ext false (Cell.s false 2 (List.length c.6) (cL c.6)), HO.ext false (Cell.s false 2 (List.length c.7) (cK c.7)), HO.ext false (Cell.s false 1 (List.length s.1) (cT s.1)), HO.ext false (Cell.s false 1 (List.length s.2) (cT s.2)), HO.ext false (Cell.s false 1 (List.length s.3) (cT s.3)), HO.ext false (Cell.s false 4 (List.length s.4) (cP s.4))]) else bif !b == false then R (SV.v (Value.bool false)) [] else K [It.rnd [0, 0, 1, 1, 0, 0, 1, 0, 0, 1, 0, 1, 1, 1, 1, 1, 1] M3, It.blk 2, It.blk 1, It.at [1, 1, 0, 0, 1, 0, 1, 1, 1, 1, 1, 1], It.rnd [0, 0, 1, 0, 1, 1, 1, 1, 1, 1] M2, It.blk 0, It.at [1, 1, 1, 1, 1, 1, 1]] (St.mk [(15, SV.v (vi64 (IntKind.wrap IntKind.i64 ((↑r : Int) + (1 : Int))))), (14, SV.v (vi64 to)), (13, SV.v (vi64 fr)), (12, SV.v (vi64 (↑i : Int))), (9, SV.o 0), (11, SV.p 1 0), (5, SV.p 2 0), (7, SV.p 3 0), (2, SV.v (vi64 k)), (0, SV.v (vi64 so))] [HO.rowc 76 3 m (Ct.fn (cQ os)), HO.cells [SV.v (vu64 (0 : Int)), SV.v (vu64 (0 : Int)), SV.v (vu64 (0 : Int)), SV.v (vu64 (0 : Int))] 56, HO.cells [SV.v (vi64 c.1), SV.v (vi64 c.2), SV.v (vi64 c.3), SV.x 4 [], SV.x 5 [], SV.x 6 [], SV.x 7 []] 27, HO.cells [SV.x 8 [], SV.x 9 [], SV.x 10 [], SV.x 11 []] 49, HO.ext false (Cell.s false 7 (List.length c.4) (cN c.4)), HO.ext false (Cell.s false 1 (List.length c.5) (cI c.5)), HO.ext false (Cell.s false 2 (List.length c.6) (cL c.6)), HO.ext false (Cell.s false 2 (List.length c.7) (cK c.7)), HO.ext false (Cell.s false 1 (List.length s.1) (cT s.1)), HO.ext false (Cell.s false 1 (List.length s.2) (cT s.2)), HO.ext false (Cell.s false 1 (List.length s.3) (cT s.3)), HO.ext false (Cell.s false 4 (List.length s.4) (cP s.4))])) := by kernel_rfl
noncomputable def sT1 (c : Cir) (s : Sht) (so k : Int) (os : List (Int × Int × Int)) (i : Nat) : St := (St.mk [(12, SV.v (vi64 (i : Int))), (9, SV.o 0), (11, SV.p 1 0), (5, SV.p 2 0), (7, SV.p 3 0), (2, SV.v (vi64 k)), (0, SV.v (vi64 so))] [HO.rowc 76 3 os.length (Ct.fn (cQ os)), HO.cells [SV.v (vu64 (0 : Int)), SV.v (vu64 (0 : Int)), SV.v (vu64 (0 : Int)), SV.v (vu64 (0 : Int))] 56, HO.cells [SV.v (vi64 c.1), SV.v (vi64 c.2), SV.v (vi64 c.3), SV.x 4 [], SV.x 5 [], SV.x 6 [], SV.x 7 []] 27, HO.cells [SV.x 8 [], SV.x 9 [], SV.x 10 [], SV.x 11 []] 49, HO.ext false (Cell.s false 7 (List.length c.4) (cN c.4)), HO.ext false (Cell.s false 1 (List.length c.5) (cI c.5)), HO.ext false (Cell.s false 2 (List.length c.6) (cL c.6)), HO.ext false (Cell.s false 2 (List.length c.7) (cK c.7)), HO.ext false (Cell.s false 1 (List.length s.1) (cT s.1)), HO.ext false (Cell.s false 1 (List.length s.2) (cT s.2)), HO.ext false (Cell.s false 1 (List.length s.3) (cT s.3)), HO.ext false (Cell.s false 4 (List.length s.4) (cP s.4))])
noncomputable def sT2 (c : Cir) (s : Sht) (so k : Int) (os : List (Int × Int × Int)) (i r : Nat) (to fr : Int) : St := (St.mk [(15, SV.v (vi64 (r : Int))), (14, SV.v (vi64 to)), (13, SV.v (vi64 fr)), (12, SV.v (vi64 (↑i : Int))), (9, SV.o 0), (11, SV.p 1 0), (5, SV.p 2 0), (7, SV.p 3 0), (2, SV.v (vi64 k)), (0, SV.v (vi64 so))] [HO.rowc 76 3 os.length (Ct.fn (cQ os)), HO.cells [SV.v (vu64 (0 : Int)), SV.v (vu64 (0 : Int)), SV.v (vu64 (0 : Int)), SV.v (vu64 (0 : Int))] 56, HO.cells [SV.v (vi64 c.1), SV.v (vi64 c.2), SV.v (vi64 c.3), SV.x 4 [], SV.x 5 [], SV.x 6 [], SV.x 7 []] 27, HO.cells [SV.x 8 [], SV.x 9 [], SV.x 10 [], SV.x 11 []] 49, HO.ext false (Cell.s false 7 (List.length c.4) (cN c.4)), HO.ext false (Cell.s false 1 (List.length c.5) (cI c.5)), HO.ext false (Cell.s false 2 (List.length c.6) (cL c.6)), HO.ext false (Cell.s false 2 (List.length c.7) (cK c.7)), HO.ext false (Cell.s false 1 (List.length s.1) (cT s.1)), HO.ext false (Cell.s false 1 (List.length s.2) (cT s.2)), HO.ext false (Cell.s false 1 (List.length s.3) (cT s.3)), HO.ext false (Cell.s false 4 (List.length s.4) (cP s.4))])
noncomputable def sT3 (c : Cir) (s : Sht) (so k : Int) (os : List (Int × Int × Int)) (i r j : Nat) (to fr : Int) (b : Bool) : St := (St.mk [(17, SV.v (vi64 (j : Int))), (16, SV.v (Value.bool b)), (15, SV.v (vi64 (↑r : Int))), (14, SV.v (vi64 to)), (13, SV.v (vi64 fr)), (12, SV.v (vi64 (↑i : Int))), (9, SV.o 0), (11, SV.p 1 0), (5, SV.p 2 0), (7, SV.p 3 0), (2, SV.v (vi64 k)), (0, SV.v (vi64 so))] [HO.rowc 76 3 os.length (Ct.fn (cQ os)), HO.cells [SV.v (vu64 (0 : Int)), SV.v (vu64 (0 : Int)), SV.v (vu64 (0 : Int)), SV.v (vu64 (0 : Int))] 56, HO.cells [SV.v (vi64 c.1), SV.v (vi64 c.2), SV.v (vi64 c.3), SV.x 4 [], SV.x 5 [], SV.x 6 [], SV.x 7 []] 27, HO.cells [SV.x 8 [], SV.x 9 [], SV.x 10 [], SV.x 11 []] 49, HO.ext false (Cell.s false 7 (List.length c.4) (cN c.4)), HO.ext false (Cell.s false 1 (List.length c.5) (cI c.5)), HO.ext false (Cell.s false 2 (List.length c.6) (cL c.6)), HO.ext false (Cell.s false 2 (List.length c.7) (cK c.7)), HO.ext false (Cell.s false 1 (List.length s.1) (cT s.1)), HO.ext false (Cell.s false 1 (List.length s.2) (cT s.2)), HO.ext false (Cell.s false 1 (List.length s.3) (cT s.3)), HO.ext false (Cell.s false 4 (List.length s.4) (cP s.4))])
theorem sg3_loop (c : Cir) (hc : c.ok) (s : Sht) (hs : s.ok) (so k : Int) (h0 : fE so = 0) (h1 : fitV c k s = 0) (Q : SV → List HO → Prop) (hq : Q (.v (.bool true)) []) (os : List (Int × Int × Int)) (hos : os = fltV c s so k) (hol : os.length ≤ 100000) (i r : Nat) (hi : i < c.gates.length) (hr : (r : Int) < usN k) (M2 M3 : Nat) (to fr : Int) (hto : to = (rowsV c k (gI c.gates i)).2) (hfr : fr = (rowsV c k (gI c.gates i)).1) (next : FOk Try.prog Try.f9 Q (.rnd [0,0,1,1,0,0,1,0,0,1,0,1,1,1,1,1,1] M3 :: [.blk 2, .blk 1, .at [1, 1, 0, 0, 1, 0, 1, 1, 1, 1, 1, 1], .rnd [0, 0, 1, 0, 1, 1, 1, 1, 1, 1] M2, .blk 0, .at [1, 1, 1, 1, 1, 1, 1]]) (sT2 c s so k os i (r + 1) to fr)) : ∀ (d j : Nat) (b : Bool), j + d = os.length → b = decide (((1 : Int), (i : Int), (r : Int)) ∈ os.take j) →
    FOk Try.prog Try.f9 Q (.rnd [0,0,1,0,1,0,0,1,0,0,1,1,0,0,1,0,0,1,0,1,1,1,1,1,1] (d + 1) :: [.blk 4, .at [1, 1, 0, 0, 1, 0, 0, 1, 1, 0, 0, 1, 0, 0, 1, 0, 1, 1, 1, 1, 1, 1], .blk 3, .at [1, 1, 0, 0, 1, 1, 0, 0, 1, 0, 0, 1, 0, 1, 1, 1, 1, 1, 1], .rnd [0, 0, 1, 1, 0, 0, 1, 0, 0, 1, 0, 1, 1, 1, 1, 1, 1] M3, .blk 2, .blk 1, .at [1, 1, 0, 0, 1, 0, 1, 1, 1, 1, 1, 1], .rnd [0, 0, 1, 0, 1, 1, 1, 1, 1, 1] M2, .blk 0, .at [1, 1, 1, 1, 1, 1, 1]]) (sT3 c s so k os i r j to fr b)
  | 0, j, b, hd, hb => by
    obtain ⟨k0, k3, k5, _⟩ := fitV_zero h1
    have hu := usN_le k5
    have hin := gates_in k0 _ (gI_mem hi)
    have hln := rowV_len k0 s h0 k (r : Int)
    have hm2 := flt_mem s so hi hr
    rw [← hos, ← hto, ← hfr] at hm2
    rw [List.take_of_length_le (by omega)] at hb
    refine FOk.rnd (run_sound hm 60 ((sg3 c s so k os os.length i r j M2 M3 0 to fr b _ _).mpr ⟨?_⟩))
    rw [cond_dec, if_neg (by omega)]
    refine lC_mk c hc (lS_mk s hs (lF_mk c hc s hs ?_))
    rw [rowR_right h0 h1 hr]
    dsimp only
    rw [cond_not, cond_beq, if_pos rfl, cond_dec, wrap_inc r (by omega)]
    refine ite_intro (fun a1 => ?_) (fun a1 => ?_)
    · rw [cond_dec]
      refine ite_intro (fun a2 => ?_) (fun a2 => ?_)
      · refine And.intro (fun _ => by omega) (And.intro (fun _ => by omega) (And.intro (fun _ => by omega) (And.intro (fun _ => by omega) (?_))))
        have e : b = !decide (eI (gE (rowV c s so k (qsN [] c.nodes) (r : Int)) (gI c.gates i).toNat) = [(0 : Int), (0 : Int), (0 : Int), (0 : Int)]) := by
          rw [hb, ← decide_not]
          exact decide_eq_decide.2 (hm2.trans ⟨And.right, fun h => ⟨⟨a1, a2⟩, h⟩⟩)
        rw [e, beq_self_eq_true]
        exact next
      · have e : b = false := hb.trans (decide_eq_false fun h => a2 (hm2.1 h).1.2)
        rw [e]
        exact next
    · have e : b = false := hb.trans (decide_eq_false fun h => a1 (hm2.1 h).1.1)
      rw [e]
      exact next
  | d + 1, j, b, hd, hb => by
    have hj : j < os.length := by omega
    refine FOk.rnd (run_sound hm 60 ((sg3 c s so k os os.length i r j M2 M3 (d + 1) to fr b _ _).mpr ⟨?_⟩))
    rw [cond_dec, if_pos (by omega), wrap_inc j (by omega)]
    cases hbb : b with
    | true =>
      rw [hbb] at hb
      exact sg3_loop c hc s hs so k h0 h1 Q hq os hos hol i r hi hr M2 M3 to fr hto hfr next d (j + 1) true (by omega) (decide_eq_true ((mem_takeQ hj _).2 (.inl (of_decide_eq_true hb.symm)))).symm
    | false =>
      rw [hbb] at hb
      refine And.intro (fun _ => by omega) (And.intro (fun _ => by omega) ?_)
      exact sg3_loop c hc s hs so k h0 h1 Q hq os hos hol i r hi hr M2 M3 to fr hto hfr next d (j + 1) _ (by omega) (decide_eq_decide.2 ⟨fun h => (mem_takeQ hj _).2 (.inr h), fun h => ((mem_takeQ hj _).1 h).resolve_left (of_decide_eq_false hb.symm)⟩)
theorem sg2_loop (c : Cir) (hc : c.ok) (s : Sht) (hs : s.ok) (so k : Int) (h0 : fE so = 0) (h1 : fitV c k s = 0) (Q : SV → List HO → Prop) (hq : Q (.v (.bool true)) []) (os : List (Int × Int × Int)) (hos : os = fltV c s so k) (hol : os.length ≤ 100000) (i : Nat) (hi : i < c.gates.length) (M2 : Nat) (to fr : Int) (hto : to = (rowsV c k (gI c.gates i)).2) (hfr : fr = (rowsV c k (gI c.gates i)).1) (next : FOk Try.prog Try.f9 Q (.rnd [0,0,1,0,1,1,1,1,1,1] M2 :: [.blk 0, .at [1, 1, 1, 1, 1, 1, 1]]) (sT1 c s so k os (i + 1))) : ∀ (d r : Nat), r + d = (usN k).toNat →
    FOk Try.prog Try.f9 Q (.rnd [0,0,1,1,0,0,1,0,0,1,0,1,1,1,1,1,1] (d + 1) :: [.blk 2, .blk 1, .at [1, 1, 0, 0, 1, 0, 1, 1, 1, 1, 1, 1], .rnd [0, 0, 1, 0, 1, 1, 1, 1, 1, 1] M2, .blk 0, .at [1, 1, 1, 1, 1, 1, 1]]) (sT2 c s so k os i r to fr)
  | 0, r, hd => by
    obtain ⟨k0, k3, k5, _⟩ := fitV_zero h1
    have hu := usN_le k5
    have hl := chkC_len k0
    refine FOk.rnd (run_sound hm 60 ((sg2 c s so k os os.length i r M2 0 to fr _ _).mpr ⟨?_⟩))
    rw [cond_dec, if_neg (by omega), wrap_inc i (by omega)]
    exact next
  | d + 1, r, hd => by
    obtain ⟨k0, k3, k5, _⟩ := fitV_zero h1
    have hu := usN_le k5
    refine FOk.rnd (run_sound hm 60 ((sg2 c s so k os os.length i r M2 (d + 1) to fr _ _).mpr ⟨?_⟩))
    rw [cond_dec, if_pos (by omega)]
    exact FOk.loop (os.length + 1) (by kernel_rfl) (sg3_loop c hc s hs so k h0 h1 Q hq os hos hol i r hi (by omega) M2 (d + 1) to fr hto hfr (sg2_loop c hc s hs so k h0 h1 Q hq os hos hol i hi M2 to fr hto hfr next d (r + 1) (by omega)) os.length 0 false (by omega) (by simp))
theorem sg1_loop (c : Cir) (hc : c.ok) (s : Sht) (hs : s.ok) (so k : Int) (h0 : fE so = 0) (h1 : fitV c k s = 0) (Q : SV → List HO → Prop) (hq : Q (.v (.bool true)) []) (os : List (Int × Int × Int)) (hos : os = fltV c s so k) (hol : os.length ≤ 100000) : ∀ (d i : Nat), i + d = c.gates.length →
    FOk Try.prog Try.f9 Q (.rnd [0,0,1,0,1,1,1,1,1,1] (d + 1) :: [.blk 0, .at [1, 1, 1, 1, 1, 1, 1]]) (sT1 c s so k os i)
  | 0, i, hd => by
    refine FOk.rnd (run_sound hm 60 ((sg1 c s so k os os.length i 0 _ _).mpr ⟨?_⟩))
    rw [cond_dec, if_neg (by omega)]
    exact hq
  | d + 1, i, hd => by
    refine FOk.rnd (run_sound hm 60 ((sg1 c s so k os os.length i (d + 1) _ _).mpr ⟨?_⟩))
    rw [cond_dec, if_pos (by omega)]
    refine And.intro (fun _ => by omega) (And.intro (fun _ => by omega) (lC_mk c hc (lC_mk c hc ?_)))
    exact FOk.loop ((usN k).toNat + 1) (by kernel_rfl) (sg2_loop c hc s hs so k h0 h1 Q hq os hos hol i (by omega) (d + 1) _ _ rfl rfl (sg1_loop c hc s hs so k h0 h1 Q hq os hos hol d (i + 1) (by omega)) (usN k).toNat 0 (by omega))
theorem bSg : Try.f9.body.isSome = true := by kernel_rfl
theorem nSg (c : Cir) (so k : Int) : Nat.ble ([.v (.int .i64 so), .agg [.v (.int .i64 c.fx), .v (.int .i64 c.ad), .v (.int .i64 c.ins), .x 0 [], .x 1 [], .x 2 [], .x 3 []], .v (.int .i64 k), .agg [.x 4 [], .x 5 [], .x 6 [], .x 7 []]] : List SV).length Try.f9.ntmps = true := by kernel_rfl
theorem sgates_ok (c : Cir) (hc : c.ok) (s : Sht) (hs : s.ok) (so k : Int) (Q : SV → List HO → Prop) (hq : Q (.v (.bool true)) []) : FnOk Try.prog 9 [.v (.int .i64 so), .agg [.v (.int .i64 c.fx), .v (.int .i64 c.ad), .v (.int .i64 c.ins), .x 0 [], .x 1 [], .x 2 [], .x 3 []], .v (.int .i64 k), .agg [.x 4 [], .x 5 [], .x 6 [], .x 7 []]] [.ext false (.s false 7 c.nodes.length (cN c.nodes)), .ext false (.s false 1 c.gates.length (cI c.gates)), .ext false (.s false 2 c.looks.length (cL c.looks)), .ext false (.s false 2 c.eqs.length (cK c.eqs)), .ext false (.s false 1 s.fx.length (cT s.fx)), .ext false (.s false 1 s.ad.length (cT s.ad)), .ext false (.s false 1 s.is.length (cT s.is)), .ext false (.s false 4 s.cp.length (cP s.cp))] Q := by
  refine fn_of_ok Try.func9 bSg ?_ ?_
  · exact nSg c so k
  refine run_sound hm 60 ((sgS c s so k _ _).mpr ⟨?_⟩)
  refine lF_mk c hc s hs (cond_intro (fun _ => hq) (fun _ => lC_mk c hc (lS_mk s hs (lF_mk c hc s hs ?_))))
  rw [cond_not, cond_beq]
  refine ite_intro (fun hz => ?_) (fun hz => ?_)
  · obtain ⟨h0, h1⟩ := fltR_zero hz
    obtain ⟨k0, k3, k5, _⟩ := fitV_zero h1
    rw [fltR_right h0 h1]
    refine And.intro (fun _ => by omega) ?_
    exact FOk.loop (c.gates.length + 1) (by kernel_rfl) (sg1_loop c hc s hs so k h0 h1 Q hq (fltV c s so k) rfl (fltV_len k0 k5 (cps_in h1).1) c.gates.length 0 (by omega))
  · have e : (fltR c s so k).1 = [] := by
      rw [fltR] at hz ⊢
      by_cases h0 : fE so = 0
      · rw [if_neg (fun h => h h0)] at hz ⊢
        by_cases h1 : fitV c k s = 0
        · rw [if_neg (fun h => h h1)] at hz; exact absurd rfl hz
        · rw [if_pos h1]
      · rw [if_pos h0]
    rw [e]
    exact hq
end Go.Proofs.Ytlmjdcbhpffanaa
/- Arguments' types: sheets. -/
namespace Go.Pl
open Go.Sx
noncomputable def shtCell (s : Sht) (j : Nat) : Cell :=
  match j with
  | 0 => .s false 1 s.fx.length (cT s.fx)
  | 1 => .s false 1 s.ad.length (cT s.ad)
  | 2 => .s false 1 s.is.length (cT s.is)
  | 3 => .s false 4 s.cp.length (cP s.cp)
  | _ => .v undef
end Go.Pl
namespace Go.Proofs.Ytlmjdcbhpffanaa
open Go.Sx Go.Pl Go.RowKit Go.ChangeShapes Go.WideShapes Go.ChangeAt
set_option linter.unusedVariables false
set_option maxRecDepth 100000
theorem by44 : Try.prog.bytesOf 44 = 24 := by kernel_rfl
theorem u31 : Try.prog.underlying 31 = some (.slice 44) := by kernel_rfl
theorem c31 : Try.prog.cellsOf 31 = 1 := by kernel_rfl
theorem cod_t : Cod Try.prog 31 1 (fun (l : List (List Nat)) _ => .s false 1 l.length (cT l)) okT := (Cod.slice cod_es u31 c31 []).mono fun l h => by
  obtain ⟨h1, h2⟩ := h
  rw [by44, reachBytes] at h2
  exact ⟨h1, h2⟩
theorem u98 : Try.prog.underlying 98 = some (.struct #[⟨"Col", 3, 0, false, "", "", 0⟩, ⟨"Row", 3, 1, false, "", "", 8⟩]) := by kernel_rfl
theorem c98 : Try.prog.cellsOf 98 = 2 := by kernel_rfl
theorem cod_ce : Cod Try.prog 98 2 kCell (fun x => i64 x.1 ∧ i64 x.2) where
  cells := c98
  opn := by
    intro H enc w base sp hd n cs d p hl h hw
    obtain ⟨xs, k, _, hx, _, hxl, hf⟩ := DataW.trod_struct u98 h
    simp only [Prod.mk.injEq] at hx
    obtain ⟨rfl, rfl⟩ := hx
    have hW : ∀ x ∈ DataW.weightsEach Try.prog [3, 3] (xs.map (·.1)), x ≤ reachBytes := fun x hx => hw x (by simp only [DataW.weights, u98]; exact hx)
    have hxl : xs.length = 2 := hxl
    obtain ⟨x0, o0, r0⟩ := cod_i.field (off := 0) (hf 0 _ rfl) (by omega) hW rfl (by omega)
    obtain ⟨x1, o1, r1⟩ := cod_i.field (off := 1) (hf 1 _ rfl) (by omega) hW rfl (by omega)
    refine ⟨(x0, x1), ⟨o0, o1⟩, fun j hj => ?_⟩
    match j, hj with
    | 0, _ => exact r0 0 (by omega)
    | 1, _ => exact r1 0 (by omega)
theorem u103 : Try.prog.underlying 103 = some (.struct #[⟨"A", 98, 0, false, "", "", 0⟩, ⟨"B", 98, 2, false, "", "", 16⟩]) := by kernel_rfl
theorem c103 : Try.prog.cellsOf 103 = 4 := by kernel_rfl
theorem cod_cp : Cod Try.prog 103 4 pCell (fun x => i64 x.1 ∧ i64 x.2.1 ∧ i64 x.2.2.1 ∧ i64 x.2.2.2) where
  cells := c103
  opn := by
    intro H enc w base sp hd n cs d p hl h hw
    obtain ⟨xs, k, _, hx, _, hxl, hf⟩ := DataW.trod_struct u103 h
    simp only [Prod.mk.injEq] at hx
    obtain ⟨rfl, rfl⟩ := hx
    have hW : ∀ x ∈ DataW.weightsEach Try.prog [98, 98] (xs.map (·.1)), x ≤ reachBytes := fun x hx => hw x (by simp only [DataW.weights, u103]; exact hx)
    have hxl : xs.length = 2 := hxl
    obtain ⟨x0, o0, r0⟩ := cod_ce.field (off := 0) (hf 0 _ rfl) (by omega) hW rfl (by omega)
    obtain ⟨x1, o1, r1⟩ := cod_ce.field (off := 2) (hf 1 _ rfl) (by omega) hW rfl (by omega)
    refine ⟨(x0.1, x0.2, x1.1, x1.2), ⟨o0.1, o0.2, o1.1, o1.2⟩, fun j hj => ?_⟩
    match j, hj with
    | 0, _ => exact r0 0 (by omega)
    | 1, _ => exact r0 1 (by omega)
    | 2, _ => exact r1 0 (by omega)
    | 3, _ => exact r1 1 (by omega)
theorem by103 : Try.prog.bytesOf 103 = 32 := by kernel_rfl
theorem u47 : Try.prog.underlying 47 = some (.slice 103) := by kernel_rfl
theorem c47 : Try.prog.cellsOf 47 = 1 := by kernel_rfl
theorem cod_cps : Cod Try.prog 47 1 (fun (l : List (Int × Int × Int × Int)) _ => .s false 4 l.length (cP l)) (fun l => (∀ x ∈ l, i64 x.1 ∧ i64 x.2.1 ∧ i64 x.2.2.1 ∧ i64 x.2.2.2) ∧ l.length * 32 ≤ 140737488351232) := (Cod.slice cod_cp u47 c47 dP).mono fun l h => by
  obtain ⟨h1, h2⟩ := h
  rw [by103, reachBytes] at h2
  exact ⟨h1, h2⟩
theorem u49 : Try.prog.underlying 49 = some (.struct #[⟨"Fixed", 31, 0, false, "", "", 0⟩, ⟨"Advice", 31, 1, false, "", "", 24⟩, ⟨"Instance", 31, 2, false, "", "", 48⟩, ⟨"Copies", 47, 3, false, "", "", 72⟩]) := by kernel_rfl
theorem c49 : Try.prog.cellsOf 49 = 4 := by kernel_rfl
theorem cod_s : Cod Try.prog 49 4 shtCell Sht.ok where
  cells := c49
  opn := by
    intro H enc w base sp hd n cs d p hl h hw
    obtain ⟨xs, k, _, hx, _, hxl, hf⟩ := DataW.trod_struct u49 h
    simp only [Prod.mk.injEq] at hx
    obtain ⟨rfl, rfl⟩ := hx
    have hW : ∀ x ∈ DataW.weightsEach Try.prog [31, 31, 31, 47] (xs.map (·.1)), x ≤ reachBytes := fun x hx => hw x (by simp only [DataW.weights, u49]; exact hx)
    have hxl : xs.length = 4 := hxl
    obtain ⟨x0, o0, r0⟩ := cod_t.field (off := 0) (hf 0 _ rfl) (by omega) hW rfl (by omega)
    obtain ⟨x1, o1, r1⟩ := cod_t.field (off := 1) (hf 1 _ rfl) (by omega) hW rfl (by omega)
    obtain ⟨x2, o2, r2⟩ := cod_t.field (off := 2) (hf 2 _ rfl) (by omega) hW rfl (by omega)
    obtain ⟨x3, o3, r3⟩ := cod_cps.field (off := 3) (hf 3 _ rfl) (by omega) hW rfl (by omega)
    refine ⟨⟨x0, x1, x2, x3⟩, ⟨o0, o1, o2, o3⟩, fun j hj => ?_⟩
    match j, hj with
    | 0, _ => exact r0 0 (by omega)
    | 1, _ => exact r1 0 (by omega)
    | 2, _ => exact r2 0 (by omega)
    | 3, _ => exact r3 0 (by omega)
end Go.Proofs.Ytlmjdcbhpffanaa
