/- The texts Z74 .. Z85 of this proof, one behind the other. -/
import Derived.Test.YtlmjdcbhpffanaaM3
/- Does a sheet fit? -/
namespace Go.Pl
open Go.Sx
/-- Are a table's columns wrong? -/
def wrT (n u : Int) (t : List (List Nat)) : Bool := !((t.length : Int) == n) || t.any (longB u)
def wrP (n : Nat) (u : Int) (l : List (Int × Int × Int × Int)) : Bool := decide (256 < (l.length : Int)) || l.any (badP n u)
/-- Does the sheet fit the circuit? -/
def fitV (c : Cir) (k : Int) (s : Sht) : Int := if chkC c ≠ 0 then chkC c else if k < 3 then 60 else if 5 < k then 60 else if wrT c.fx (usN k) s.fx then 130 else if wrT c.ad (usN k) s.ad then 130 else if wrT c.ins (usN k) s.is then 130 else if wrP c.eqs.length (usN k) s.cp then 130 else 0
/-- A circuit and a sheet. -/
structure lF (fx ad ins : Int) (n0 n1 n2 n3 m0 m1 m2 m3 : Nat) (c0 c1 c2 c3 d0 d1 d2 d3 : Nat → Nat → Cell) (k : Cir → Sht → Prop) : Prop where
  h : lC fx ad ins n0 n1 n2 n3 c0 c1 c2 c3 fun c => lS m0 m1 m2 m3 d0 d1 d2 d3 fun s => k c s
theorem lF_mk (c : Cir) (hc : c.ok) (s : Sht) (hs : s.ok) {k : Cir → Sht → Prop} (h : k c s) : lF c.fx c.ad c.ins c.nodes.length c.gates.length c.looks.length c.eqs.length s.fx.length s.ad.length s.is.length s.cp.length (cN c.nodes) (cI c.gates) (cL c.looks) (cK c.eqs) (cT s.fx) (cT s.ad) (cT s.is) (cP s.cp) k := ⟨lC_mk c hc (lS_mk s hs h)⟩
end Go.Pl
namespace Go.Proofs.Ytlmjdcbhpffanaa
open Go.Sx Go.Pl
set_option linter.unusedVariables false
set_option maxRecDepth 100000
theorem fiS (c : Cir) (s : Sht) (k : Int) (K : List It → St → Prop) (R : SV → List HO → Prop) : W (xwp Try.prog X K73 [(32, []), (44, []), (45, []), (47, [])] 60 (fxOf Try.f20 [] []) [] [.at []] ⟨argsS 0 [.agg [.v (.int .i64 c.fx), .v (.int .i64 c.ad), .v (.int .i64 c.ins), .x 0 [], .x 1 [], .x 2 [], .x 3 []], .v (.int .i64 k), .agg [.x 4 [], .x 5 [], .x 6 [], .x 7 []]], [.ext false (.s false 7 c.nodes.length (cN c.nodes)), .ext false (.s false 1 c.gates.length (cI c.gates)), .ext false (.s false 2 c.looks.length (cL c.looks)), .ext false (.s false 2 c.eqs.length (cK c.eqs)), .ext false (.s false 1 s.fx.length (cT s.fx)), .ext false (.s false 1 s.ad.length (cT s.ad)), .ext false (.s false 1 s.is.length (cT s.is)), .ext false (.s false 4 s.cp.length (cP s.cp))]⟩ K R) = W (lC c.1 c.2 c.3 (List.length c.4) (List.length c.5) (List.length c.6) (List.length c.7) (cN c.4) (cI c.5) (cL c.6) (cK c.7) fun (c_1 : Cir) => bif !chkC c_1 == (0 : Int) then R (SV.v (vi64 (chkC c_1))) [] else bif decide (k < (3 : Int)) then R (SV.v (vi64 (60 : Int))) [] else bif decide ((5 : Int) < k) then R (SV.v (vi64 (60 : Int))) [] else (∀ (M : Mem), 0 + 1 ≤ 1) ∧ (∀ (M : Mem), 0 + 1 ≤ 1) ∧ (∀ (M : Mem), 0 + 1 ≤ 1) ∧ bif !(↑(List.length s.1) : Int) == c.1 then R (SV.v (vi64 (130 : Int))) [] else lT (List.length s.1) (cT s.1) fun (l : List (List Nat)) => lU (lc 1 [Cell.v (vi64 (usN k))]) fun (u : Int) => bif decide ((0 : Int) ≤ idxF (longB u) 0 l) then R (SV.v (vi64 (130 : Int))) [] else bif !(↑(List.length s.2) : Int) == c.2 then R (SV.v (vi64 (130 : Int))) [] else lT (List.length s.2) (cT s.2) fun (l : List (List Nat)) => lU (lc 1 [Cell.v (vi64 (usN k))]) fun (u : Int) => bif decide ((0 : Int) ≤ idxF (longB u) 0 l) then R (SV.v (vi64 (130 : Int))) [] else bif !(↑(List.length s.3) : Int) == c.3 then R (SV.v (vi64 (130 : Int))) [] else lT (List.length s.3) (cT s.3) fun (l : List (List Nat)) => lU (lc 1 [Cell.v (vi64 (usN k))]) fun (u : Int) => bif decide ((0 : Int) ≤ idxF (longB u) 0 l) then R (SV.v (vi64 (130 : Int))) [] else bif decide ((256 : Int) < (↑(List.length s.4) : Int)) then R (SV.v (vi64 (130 : Int))) [] else lP (List.length s.4) (cP s.4) fun (l : List (Int × Int × Int × Int)) => bif decide ((0 : Int) ≤ idxF (badP (List.length c.7) (usN k)) 0 l) then R (SV.v (vi64 (130 : Int))) [] else R (SV.v (vi64 (0 : Int))) []) := by kernel_rfl
theorem bFi : Try.f20.body.isSome = true := by kernel_rfl
theorem nFi (c : Cir) (k : Int) : Nat.ble ([.agg [.v (.int .i64 c.fx), .v (.int .i64 c.ad), .v (.int .i64 c.ins), .x 0 [], .x 1 [], .x 2 [], .x 3 []], .v (.int .i64 k), .agg [.x 4 [], .x 5 [], .x 6 [], .x 7 []]] : List SV).length Try.f20.ntmps = true := by kernel_rfl
theorem fi_ok (c : Cir) (hc : c.ok) (s : Sht) (hs : s.ok) (k : Int) (Q : SV → List HO → Prop) (hq : Q (.v (.int .i64 (fitV c k s))) []) : FnOk Try.prog 20 [.agg [.v (.int .i64 c.fx), .v (.int .i64 c.ad), .v (.int .i64 c.ins), .x 0 [], .x 1 [], .x 2 [], .x 3 []], .v (.int .i64 k), .agg [.x 4 [], .x 5 [], .x 6 [], .x 7 []]] [.ext false (.s false 7 c.nodes.length (cN c.nodes)), .ext false (.s false 1 c.gates.length (cI c.gates)), .ext false (.s false 2 c.looks.length (cL c.looks)), .ext false (.s false 2 c.eqs.length (cK c.eqs)), .ext false (.s false 1 s.fx.length (cT s.fx)), .ext false (.s false 1 s.ad.length (cT s.ad)), .ext false (.s false 1 s.is.length (cT s.is)), .ext false (.s false 4 s.cp.length (cP s.cp))] Q := by
  refine fn_of_ok Try.func20 bFi ?_ ?_
  · exact nFi c k
  have hp := hs.c.2
  refine run_sound hm 60 ((fiS c s k _ _).mpr ⟨?_⟩)
  rw [fitV] at hq
  refine lC_mk c hc ?_
  rw [cond_not, cond_beq]
  refine ite_intro (fun h0 => ?_) (fun h0 => by rw [if_pos h0] at hq; exact hq)
  rw [if_neg (fun h => h h0)] at hq
  rw [cond_dec, cond_dec]
  refine ite_intro (fun h1 => by rw [if_pos h1] at hq; exact hq) (fun h1 => ite_intro (fun h2 => by rw [if_neg h1, if_pos h2] at hq; exact hq) (fun h2 => ?_))
  rw [if_neg h1, if_neg h2] at hq
  refine And.intro (fun _ => by omega) (And.intro (fun _ => by omega) (And.intro (fun _ => by omega) ?_))
  have one : ∀ (t : List (List Nat)) (n : Int) (X Y : Prop), okT t → (wrT n (usN k) t = true → X) → (wrT n (usN k) t = false → Y) → (bif !((t.length : Int) == n) then X else lT t.length (cT t) fun l => lU (lc 1 [.v (vi64 (usN k))]) fun u => bif decide ((0 : Int) ≤ idxF (longB u) 0 l) then X else Y) := by
    intro t n X Y ho hx hy
    rw [wrT] at hx hy
    refine cond_intro (fun e => hx (by rw [e]; rfl)) (fun e => lT_mk ho (lU_mk _ ?_))
    rw [e, Bool.false_or] at hx hy
    rw [idxF_any]
    exact cond_intro hx hy
  refine one _ _ _ _ hs.f (fun e => by rw [if_pos e] at hq; exact hq) (fun e => ?_)
  rw [if_neg (by rw [e]; exact Bool.false_ne_true)] at hq
  refine one _ _ _ _ hs.a (fun e => by rw [if_pos e] at hq; exact hq) (fun e => ?_)
  rw [if_neg (by rw [e]; exact Bool.false_ne_true)] at hq
  refine one _ _ _ _ hs.i (fun e => by rw [if_pos e] at hq; exact hq) (fun e => ?_)
  rw [if_neg (by rw [e]; exact Bool.false_ne_true), wrP] at hq
  refine cond_intro (fun e => ?_) (fun e => lP_mk _ (by omega) ?_)
  · rw [e] at hq; exact hq
  rw [e, Bool.false_or] at hq
  rw [idxF_any]
  refine cond_intro (fun e => ?_) (fun e => ?_)
  · rw [if_pos e] at hq; exact hq
  · rw [if_neg (by rw [e]; exact Bool.false_ne_true)] at hq; exact hq
noncomputable def gFi : List SV → List HO → Option ((SV → List HO → Prop) → Prop)
  | [.agg [.v (.int .i64 fx), .v (.int .i64 ad), .v (.int .i64 ins), .x 0 [], .x 1 [], .x 2 [], .x 3 []], .v (.int .i64 k), .agg [.x 4 [], .x 5 [], .x 6 [], .x 7 []]], [.ext false (.s false 7 n0 c0), .ext false (.s false 1 n1 c1), .ext false (.s false 2 n2 c2), .ext false (.s false 2 n3 c3), .ext false (.s false 1 m0 d0), .ext false (.s false 1 m1 d1), .ext false (.s false 1 m2 d2), .ext false (.s false 4 m3 d3)] =>
    some fun Q => lF fx ad ins n0 n1 n2 n3 m0 m1 m2 m3 c0 c1 c2 c3 d0 d1 d2 d3 fun c s => Q (.v (.int .i64 (fitV c k s))) []
  | _, _ => none
theorem gFi_ok (args : List SV) (h : List HO) (tr : (SV → List HO → Prop) → Prop) (Q : SV → List HO → Prop) (hc : gFi args h = some tr) (ht : tr Q) : FnOk Try.prog 20 args h Q := by
  unfold gFi at hc
  split at hc
  · simp only [Option.some.injEq] at hc
    subst hc
    obtain ⟨c, rfl, rfl, rfl, ⟨rfl, e0⟩, ⟨rfl, e1⟩, ⟨rfl, e2⟩, ⟨rfl, e3⟩, hk, ht2⟩ := ht.h.h
    obtain ⟨s, ⟨rfl, e4⟩, ⟨rfl, e5⟩, ⟨rfl, e6⟩, ⟨rfl, e7⟩, hs, hq⟩ := ht2.h
    exact FnOk.ac (fi_ok c hk s hs _ Q hq) ⟨⟨rfl, rfl, rfl, rfl, e0⟩, ⟨rfl, rfl, rfl, rfl, e1⟩, ⟨rfl, rfl, rfl, rfl, e2⟩, ⟨rfl, rfl, rfl, rfl, e3⟩, ⟨rfl, rfl, rfl, rfl, e4⟩, ⟨rfl, rfl, rfl, rfl, e5⟩, ⟨rfl, rfl, rfl, rfl, e6⟩, ⟨rfl, rfl, rfl, rfl, e7⟩, trivial⟩
  · cases hc
noncomputable def K74 : Con Try.prog := K73.add 20 gFi gFi_ok
end Go.Proofs.Ytlmjdcbhpffanaa
/- A filled circuit. -/
namespace Go.Pl
open Go.Sx
noncomputable def flCell (c : Cir) (s : Sht) (so k : Int) (qs : List (Int × Int × Int)) (j : Nat) : Cell :=
  match j with
  | 0 => .v (.int .i64 c.fx)
  | 1 => .v (.int .i64 c.ad)
  | 2 => .v (.int .i64 c.ins)
  | 3 => .s false 7 c.nodes.length (cN c.nodes)
  | 4 => .s false 1 c.gates.length (cI c.gates)
  | 5 => .s false 2 c.looks.length (cL c.looks)
  | 6 => .s false 2 c.eqs.length (cK c.eqs)
  | 7 => .s false 1 s.fx.length (cT s.fx)
  | 8 => .s false 1 s.ad.length (cT s.ad)
  | 9 => .s false 1 s.is.length (cT s.is)
  | 10 => .s false 4 s.cp.length (cP s.cp)
  | 11 => .v (.int .i64 so)
  | 12 => .v (.int .i64 k)
  | 13 => .s false 3 qs.length (cQ qs)
  | _ => .v undef
/-- The row at which a query looks. -/
def rIx (n r t : Int) : Int := IntKind.wrap .i64 ((Int.toNat (IntKind.wrap .i64 (r + t) % (18446744073709551616 : Int)) &&& Int.toNat (IntKind.wrap .i64 (n - (1 : Int)) % (18446744073709551616 : Int)) : Nat) : Int)
def nOf (k : Int) : Int := IntKind.wrap .i64 ((1 : Int) * (2 : Int) ^ (if Int.toNat k ≤ 64 then Int.toNat k else 64))
/-- What the queries find. -/
def atQ (s : Sht) (k r : Int) (qs : List (Int × Int × Int)) : List Nat := qs.map fun q => atS s q.1 q.2.1 (rIx (nOf k) r q.2.2)
/-- The value of each node in a row. -/
noncomputable def rowV (c : Cir) (s : Sht) (so k : Int) (qs : List (Int × Int × Int)) (r : Int) : List Nat := (vlR so qs (atQ s k r qs) c.nodes).1
structure lFk (fk : Nat → Nat → Cell) (K : Cir → Sht → Int → Int → List (Int × Int × Int) → Prop) : Prop where
  h : ∃ (c : Cir) (s : Sht) (so k : Int) (qs : List (Int × Int × Int)), IsC 1 14 fk (fun _ j => flCell c s so k qs j) ∧ c.ok ∧ s.ok ∧ 0 ≤ k ∧ qs.length ≤ 4000000000000 ∧ K c s so k qs
theorem take_gQ2 {l : List (Int × Int × Int)} {k : Nat} (h : k < l.length) : l.take (k + 1) = l.take k ++ [gQ l k] := by
  rw [List.take_add_one, List.getElem?_eq_getElem h, gQ, List.getD_eq_getElem?_getD, List.getElem?_eq_getElem h]; rfl
theorem atQ_snoc {s : Sht} {k r : Int} {qs : List (Int × Int × Int)} {i : Nat} (h : i < qs.length) : atQ s k r (qs.take (i + 1)) = atQ s k r (qs.take i) ++ [atS s (gQ qs i).1 (gQ qs i).2.1 (rIx (nOf k) r (gQ qs i).2.2)] := by
  rw [take_gQ2 h, atQ, List.map_append]; rfl
theorem atQ_top {s : Sht} (hs : s.ok) (k r : Int) (qs : List (Int × Int × Int)) : ∀ v ∈ atQ s k r qs, v < top := by
  intro v hv
  obtain ⟨q, _, rfl⟩ := List.mem_map.1 hv
  exact atS_top hs _ _ _
end Go.Pl
namespace Go.Proofs.Ytlmjdcbhpffanaa
open Go.Sx Go.Pl
set_option linter.unusedVariables false
set_option maxRecDepth 100000
end Go.Proofs.Ytlmjdcbhpffanaa
/- The value of each node in a row. -/
namespace Go.Proofs.Ytlmjdcbhpffanaa
open Go.Sx Go.Pl
set_option linter.unusedVariables false
set_option maxRecDepth 100000
theorem rwS (c : Cir) (s : Sht) (so k : Int) (qs : List (Int × Int × Int)) (r : Int) (K : List It → St → Prop) (R : SV → List HO → Prop) : W (xwp Try.prog X K74 [] 60 (fxOf Try.f50 [] [⟨[0,1,0,1,1,1], [21,20,19,6,5,0,1], [(6,56,4)]⟩]) [] [.at []] ⟨argsS 0 [.x 0 [], .v (.int .i64 r)], [.ext true (.s true 14 1 (fun _ j => flCell c s so k qs j))]⟩ K R) = W ((∀ (M : Mem), 0 < 1) ∧ (∀ (M : Mem), 0 < 1) ∧ (∀ (M : Mem), 0 < 1) ∧ (∀ (M : Mem), ¬k < (0 : Int)) ∧ (∀ (M : Mem), 0 < 1) ∧ (∀ (M : Mem), 0 < 1) ∧ (∀ (M : Mem), 0 < 1) ∧ (∀ (M : Mem), 0 < 1) ∧ K [It.at [0, 1, 0, 1, 1, 1], It.blk 0, It.at [1, 1, 1, 1]] (St.mk [(21, SV.v (vi64 (0 : Int))), (20, SV.v (vi64 (↑(List.length qs) : Int))), (19, SV.x 0 [(14, 0, 13)]), (6, SV.o 1), (5, SV.v (vi64 (IntKind.wrap IntKind.i64 ((1 : Int) * (2 : Int) ^ if Int.toNat k ≤ 64 then Int.toNat k else 64)))), (0, SV.x 0 []), (1, SV.v (vi64 r))] [HO.ext true (Cell.s true 14 1 fun (x j : Nat) => flCell c s so k qs j), HO.rowc 56 4 0 (Ct.lit 1 [])])) := by kernel_rfl
theorem rwR (c : Cir) (s : Sht) (so k : Int) (qs : List (Int × Int × Int)) (r : Int) (vs : List Nat) (n : Int) (m i M : Nat) (K : List It → St → Prop) (R : SV → List HO → Prop) : W (xwp Try.prog X K74 [] 60 (fxOf Try.f50 [] [⟨[0,1,0,1,1,1], [21,20,19,6,5,0,1], [(6,56,4)]⟩]) [] (.at [0,0,1,0,1,1,1] :: .rnd [0,0,1,0,1,1,1] M :: [.blk 0, .at [1,1,1,1]]) ⟨[(21, .v (.int .i64 (i : Int))), (20, .v (.int .i64 (qs.length : Int))), (19, .x 0 [(14, 0, 13)]), (6, .o 1), (5, .v (.int .i64 n)), (0, .x 0 []), (1, .v (.int .i64 r))], [.ext true (.s true 14 1 (fun _ j => flCell c s so k qs j)), .rowc 56 4 m (.fn (cE vs))]⟩ K R) = W (bif decide ((↑i : Int) < (↑(List.length qs) : Int)) then (∀ (M : Mem), 0 < 1) ∧ (∀ (M : Mem), (0 : Int) ≤ (↑i : Int) ∧ (↑i : Int) < (↑(List.length qs) : Int)) ∧ (∀ (M : Mem), 0 < 1) ∧ (∀ (M : Mem), i < List.length qs) ∧ (∀ (M : Mem), 0 + 3 ≤ 3) ∧ (∀ (M : Mem), 0 < 1) ∧ (∀ (M : Mem), 0 < 1) ∧ (∀ (M : Mem), 0 < 1) ∧ (∀ (M : Mem), 0 < 1) ∧ (∀ (M : Mem), 0 < 1) ∧ (∀ (M : Mem), 0 < 1) ∧ (∀ (M : Mem), 0 < 1) ∧ lS (List.length s.1) (List.length s.2) (List.length s.3) (List.length s.4) (cT s.1) (cT s.2) (cT s.3) (cP s.4) fun (s_1 : Sht) => (∀ (M : Mem), (m + 1) * 32 ≤ 140737488355328 ∧ m + 1 ≤ 140737488355328) ∧ K [It.rnd [0, 0, 1, 0, 1, 1, 1] M, It.blk 0, It.at [1, 1, 1, 1]] (St.mk [(21, SV.v (vi64 (IntKind.wrap IntKind.i64 ((↑i : Int) + (1 : Int))))), (20, SV.v (vi64 (↑(List.length qs) : Int))), (19, SV.x 0 [(14, 0, 13)]), (6, SV.o 1), (5, SV.v (vi64 n)), (0, SV.x 0 []), (1, SV.v (vi64 r))] [HO.ext true (Cell.s true 14 1 fun (x j : Nat) => flCell c s so k qs j), HO.rowc 56 4 (m + 1) (Ct.app m (Ct.fn (cE vs)) (Ct.lit 4 [Cell.v (vu64 (↑(limb (atS s_1 (gQ qs i).1 (gQ qs i).2.1 (IntKind.wrap IntKind.i64 (↑(Int.toNat (IntKind.wrap IntKind.i64 (r + (gQ qs i).2.2) % (18446744073709551616 : Int)) &&& Int.toNat (IntKind.wrap IntKind.i64 (n - (1 : Int)) % (18446744073709551616 : Int))) : Int))) 0) : Int)), Cell.v (vu64 (↑(limb (atS s_1 (gQ qs i).1 (gQ qs i).2.1 (IntKind.wrap IntKind.i64 (↑(Int.toNat (IntKind.wrap IntKind.i64 (r + (gQ qs i).2.2) % (18446744073709551616 : Int)) &&& Int.toNat (IntKind.wrap IntKind.i64 (n - (1 : Int)) % (18446744073709551616 : Int))) : Int))) 1) : Int)), Cell.v (vu64 (↑(limb (atS s_1 (gQ qs i).1 (gQ qs i).2.1 (IntKind.wrap IntKind.i64 (↑(Int.toNat (IntKind.wrap IntKind.i64 (r + (gQ qs i).2.2) % (18446744073709551616 : Int)) &&& Int.toNat (IntKind.wrap IntKind.i64 (n - (1 : Int)) % (18446744073709551616 : Int))) : Int))) 2) : Int)), Cell.v (vu64 (↑(limb (atS s_1 (gQ qs i).1 (gQ qs i).2.1 (IntKind.wrap IntKind.i64 (↑(Int.toNat (IntKind.wrap IntKind.i64 (r + (gQ qs i).2.2) % (18446744073709551616 : Int)) &&& Int.toNat (IntKind.wrap IntKind.i64 (n - (1 : Int)) % (18446744073709551616 : Int))) : Int))) 3) : Int))]))]) else (∀ (M : Mem), 0 < 1) ∧ (∀ (M : Mem), 0 < 1) ∧ (∀ (M : Mem), 0 < 1) ∧ (∀ (M : Mem), 0 < 1) ∧ (∀ (M : Mem), 0 < 1) ∧ (∀ (M : Mem), 0 < 1) ∧ (∀ (M : Mem), 0 < 1) ∧ (∀ (M : Mem), 0 < 1) ∧ (∀ (M : Mem), 0 < 1) ∧ (∀ (M : Mem), 0 < 1) ∧ (∀ (M : Mem), 0 < 1) ∧ (∀ (M : Mem), 0 < 1) ∧ vlC (List.length c.4) (List.length qs) m (cN c.4) (cQ qs) (cE vs) fun (l : List Nd) (qs : List Qy) (vs : List Nat) => R (SV.o 0) [HO.rowc 56 4 (List.length (vlR so qs vs l).1) (Ct.fn (cE (vlR so qs vs l).1))]) := by kernel_rfl
theorem rw_loop (c : Cir) (hc : c.ok) (s : Sht) (hs : s.ok) (so k : Int) (qs : List (Int × Int × Int)) (hq4 : qs.length ≤ 4000000000000) (r : Int) (Q : SV → List HO → Prop) (hq : Q (.o 0) [.rowc 56 4 (rowV c s so k qs r).length (.fn (cE (rowV c s so k qs r)))]) : ∀ (d i : Nat) (vs : List Nat), i + d = qs.length → vs = atQ s k r (qs.take i) →
    FOk Try.prog Try.f50 Q (.rnd [0,0,1,0,1,1,1] (d + 1) :: [.blk 0, .at [1,1,1,1]]) ⟨[(21, .v (.int .i64 (i : Int))), (20, .v (.int .i64 (qs.length : Int))), (19, .x 0 [(14, 0, 13)]), (6, .o 1), (5, .v (.int .i64 (nOf k))), (0, .x 0 []), (1, .v (.int .i64 r))], [.ext true (.s true 14 1 (fun _ j => flCell c s so k qs j)), .rowc 56 4 vs.length (.fn (cE vs))]⟩
  | 0, i, vs, hd, hv => by
    have h1 := hc.n.2
    refine FOk.rnd (run_sound hm 60 ((rwR c s so k qs r vs (nOf k) vs.length i 0 _ _).mpr ⟨?_⟩))
    rw [cond_dec, if_neg (by omega)]
    rw [show i = qs.length by omega, List.take_length] at hv
    refine And.intro (fun _ => by omega) (And.intro (fun _ => by omega) (And.intro (fun _ => by omega) (And.intro (fun _ => by omega) (And.intro (fun _ => by omega) (And.intro (fun _ => by omega) (And.intro (fun _ => by omega) (And.intro (fun _ => by omega) (And.intro (fun _ => by omega) (And.intro (fun _ => by omega) (And.intro (fun _ => by omega) (And.intro (fun _ => by omega) (⟨⟨c.nodes, qs, vs, rfl, IsC.refl _ _ _, rfl, IsC.refl _ _ _, rfl, IsC.refl _ _ _, by omega, by omega, fun x hx => (hc.n.1 x hx).1, by rw [hv]; exact atQ_top hs k r qs, ?_⟩⟩))))))))))))
    rw [hv]
    exact hq
  | d + 1, i, vs, hd, hv => by
    have hi : i < qs.length := by omega
    have hlen : vs.length = i := by rw [hv, atQ, List.length_map, List.length_take]; omega
    refine FOk.rnd (run_sound hm 60 ((rwR c s so k qs r vs (nOf k) vs.length i (d + 1) _ _).mpr ⟨?_⟩))
    rw [cond_dec, if_pos (by omega), wrap_inc _ (by omega)]
    have next := rw_loop c hc s hs so k qs hq4 r Q hq d (i + 1) (vs ++ [atS s (gQ qs i).1 (gQ qs i).2.1 (rIx (nOf k) r (gQ qs i).2.2)]) (by omega) (by rw [atQ_snoc hi, hv])
    rw [List.length_append, List.length_singleton] at next
    refine And.intro (fun _ => by omega) (And.intro (fun _ => by omega) (And.intro (fun _ => by omega) (And.intro (fun _ => by omega) (And.intro (fun _ => by omega) (And.intro (fun _ => by omega) (And.intro (fun _ => by omega) (And.intro (fun _ => by omega) (And.intro (fun _ => by omega) (And.intro (fun _ => by omega) (And.intro (fun _ => by omega) (And.intro (fun _ => by omega) (lS_mk s hs (And.intro (fun _ => by omega) ?_)))))))))))))
    exact FOk.cv next ⟨HE.refl _, ⟨rfl, rfl, rfl, cE_snoc _ rfl⟩, trivial⟩
theorem bRw : Try.f50.body.isSome = true := by kernel_rfl
theorem nRw (r : Int) : Nat.ble [SV.x 0 [], .v (.int .i64 r)].length Try.f50.ntmps = true := by kernel_rfl
theorem rw_ok (c : Cir) (hc : c.ok) (s : Sht) (hs : s.ok) (so k : Int) (hk : 0 ≤ k) (qs : List (Int × Int × Int)) (hq4 : qs.length ≤ 4000000000000) (r : Int) (Q : SV → List HO → Prop) (hq : Q (.x 0 []) [.ext false (.s false 4 (rowV c s so k qs r).length (cE (rowV c s so k qs r)))]) : FnOk Try.prog 50 [.x 0 [], .v (.int .i64 r)] [.ext true (.s true 14 1 (fun _ j => flCell c s so k qs j))] Q := by
  have h0 : FnOk Try.prog 50 [.x 0 [], .v (.int .i64 r)] [.ext true (.s true 14 1 (fun _ j => flCell c s so k qs j))] (fun z h' => z = .o 0 ∧ h' = [.rowc 56 4 (rowV c s so k qs r).length (.fn (cE (rowV c s so k qs r)))]) := by
    refine fn_of_ok Try.func50 bRw ?_ ?_
    · exact nRw r
    refine run_sound hm 60 ((rwS c s so k qs r _ _).mpr ⟨?_⟩)
    refine And.intro (fun _ => by omega) (And.intro (fun _ => by omega) (And.intro (fun _ => by omega) (And.intro (fun _ => by omega) (And.intro (fun _ => by omega) (And.intro (fun _ => by omega) (And.intro (fun _ => by omega) (And.intro (fun _ => by omega) (?_))))))))
    exact FOk.loop (qs.length + 1) (by kernel_rfl) (FOk.cv (rw_loop c hc s hs so k qs hq4 r _ ⟨rfl, rfl⟩ qs.length 0 [] (by omega) rfl) ⟨HE.refl _, ⟨rfl, rfl, rfl, fun k hk => by simp at hk⟩, trivial⟩)
  have h := FnOk.gc (r1 := .x 0 []) (h1 := [.ext false (.s false 4 (rowV c s so k qs r).length (cE (rowV c s so k qs r)))]) rfl (FnOk.frz1 0 rfl h0)
  exact FnOk.mono h fun z h' hh => by rw [hh.1, hh.2]; exact hq
noncomputable def gRw : List SV → List HO → Option ((SV → List HO → Prop) → Prop)
  | [.x 0 [], .v (.int .i64 r)], [.ext true (.s true 14 1 fk)] => some fun Q => lFk fk fun c s so k qs => Q (.x 0 []) [.ext false (.s false 4 (rowV c s so k qs r).length (cE (rowV c s so k qs r)))]
  | _, _ => none
theorem gRw_ok (args : List SV) (h : List HO) (tr : (SV → List HO → Prop) → Prop) (Q : SV → List HO → Prop) (hc : gRw args h = some tr) (ht : tr Q) : FnOk Try.prog 50 args h Q := by
  unfold gRw at hc
  split at hc
  · simp only [Option.some.injEq] at hc
    subst hc
    obtain ⟨c, s, so, k, qs, e, hk, hs, h0, h4, hq⟩ := ht.h
    exact FnOk.ac (rw_ok c hk s hs so k h0 qs h4 _ Q hq) ⟨⟨rfl, rfl, rfl, rfl, e⟩, trivial⟩
  · cases hc
noncomputable def K75 : Con Try.prog := K74.add 50 gRw gRw_ok
end Go.Proofs.Ytlmjdcbhpffanaa
/- A row's values, as they are answered. -/
namespace Go.Sx
open Go.RowKit
/-- A nil slice with an error beside it, told as empty frozen memory. -/
theorem FnOk.nilTX {P : Program} {m : Nat} {f : FuncId} {args : List SV} {h : List HO} {Q : SV → List HO → Prop} (sz : Nat) (c : Nat → Nat → Cell) (k : FnOkM P m f args h fun r h' => Q r h' ∨ (∃ y, r = .tup [.v (.slice none 0 0), .v y] ∧ h' = [] ∧ Q (.tup [.x 0 [], .v y]) [.ext false (.s false sz 0 c)])) : FnOkM P m f args h Q := by
  intro F hF w0 e hm0 S hw
  refine (k F hF w0 e hm0 S hw).mono fun E w' hE => ?_
  obtain ⟨e', r, h', hq, h2, h3, h4⟩ := hE
  rcases hq with hq | ⟨y, rfl, rfl, hq⟩
  · exact ⟨e', r, h', hq, h2, h3, h4⟩
  · refine ⟨e'.setV 0 (fun _ => .slice none 0 0) (fun _ => rfl), .tup [.x 0 [], .v y], _, hq, ⟨Nat.zero_lt_one, trivial, trivial⟩, ?_, by rw [h4]; simp [den, denL, Env.setV]⟩
    exact h3.newExt hF false (.s false sz 0 c) (fun _ => .slice none 0 0) (fun _ => rfl) ⟨none, ⟨0, rfl, Nat.le_refl _⟩, .inl rfl⟩
end Go.Sx
namespace Go.Pl
open Go.Sx
theorem lFk_mk (c : Cir) (hc : c.ok) (s : Sht) (hs : s.ok) (so k : Int) (hk : 0 ≤ k) (qs : List (Int × Int × Int)) (hq4 : qs.length ≤ 4000000000000) {K : Cir → Sht → Int → Int → List (Int × Int × Int) → Prop} (h : K c s so k qs) : lFk (lc 14 [.v (vi64 c.1), .v (vi64 c.2), .v (vi64 c.3), .s false 7 (List.length c.4) (cN c.4), .s false 1 (List.length c.5) (cI c.5), .s false 2 (List.length c.6) (cL c.6), .s false 2 (List.length c.7) (cK c.7), .s false 1 (List.length s.1) (cT s.1), .s false 1 (List.length s.2) (cT s.2), .s false 1 (List.length s.3) (cT s.3), .s false 4 (List.length s.4) (cP s.4), .v (vi64 so), .v (vi64 k), .s false 3 (List.length qs) (cQ qs)]) K :=
  ⟨⟨c, s, so, k, qs, fun i hi j hj => by
    have e : i = 0 := by omega
    subst e
    match j, hj with
    | 0, _ => rfl
    | 1, _ => rfl
    | 2, _ => rfl
    | 3, _ => rfl
    | 4, _ => rfl
    | 5, _ => rfl
    | 6, _ => rfl
    | 7, _ => rfl
    | 8, _ => rfl
    | 9, _ => rfl
    | 10, _ => rfl
    | 11, _ => rfl
    | 12, _ => rfl
    | 13, _ => rfl, hc, hs, hk, hq4, h⟩⟩
/-- What Row answers. -/
noncomputable def rowR (c : Cir) (s : Sht) (so k r : Int) : List Nat × Int := if fE so ≠ 0 then ([], fE so) else if fitV c k s ≠ 0 then ([], fitV c k s) else if r < 0 then ([], 50) else if nOf k ≤ r then ([], 50) else (rowV c s so k (qsN [] c.nodes) r, 0)
theorem fitV_zero {c : Cir} {k : Int} {s : Sht} (h : fitV c k s = 0) : chkC c = 0 ∧ 3 ≤ k ∧ k ≤ 5 ∧ wrT c.fx (usN k) s.fx = false ∧ wrT c.ad (usN k) s.ad = false ∧ wrT c.ins (usN k) s.is = false ∧ wrP c.eqs.length (usN k) s.cp = false := by
  rw [fitV] at h
  by_cases h0 : chkC c = 0
  · rw [if_neg (fun hh => hh h0)] at h
    by_cases h1 : k < 3
    · rw [if_pos h1] at h; cases h
    rw [if_neg h1] at h
    by_cases h2 : 5 < k
    · rw [if_pos h2] at h; cases h
    rw [if_neg h2] at h
    refine ⟨h0, by omega, by omega, ?_⟩
    repeat' split at h
    all_goals first
      | cases h; done
      | simp_all
  · rw [if_pos h0] at h; exact absurd h h0
theorem chkC_nodes {c : Cir} (h : chkC c = 0) : c.nodes.length ≤ 64 := by
  obtain ⟨h0, _⟩ := chkC_zero h
  exact (chkN_ord h0).1
end Go.Pl
namespace Go.Proofs.Ytlmjdcbhpffanaa
open Go.Sx Go.Pl
set_option linter.unusedVariables false
set_option maxRecDepth 100000
theorem sroS (c : Cir) (s : Sht) (so k r : Int) (K : List It → St → Prop) (R : SV → List HO → Prop) : W (xwp Try.prog X K75 [(49, [])] 60 (fxOf Try.f30 [] []) [] [.at []] ⟨argsS 0 [.v (.int .i64 so), .agg [.v (.int .i64 c.fx), .v (.int .i64 c.ad), .v (.int .i64 c.ins), .x 0 [], .x 1 [], .x 2 [], .x 3 []], .v (.int .i64 k), .agg [.x 4 [], .x 5 [], .x 6 [], .x 7 []], .v (.int .i64 r)], [.ext false (.s false 7 c.nodes.length (cN c.nodes)), .ext false (.s false 1 c.gates.length (cI c.gates)), .ext false (.s false 2 c.looks.length (cL c.looks)), .ext false (.s false 2 c.eqs.length (cK c.eqs)), .ext false (.s false 1 s.fx.length (cT s.fx)), .ext false (.s false 1 s.ad.length (cT s.ad)), .ext false (.s false 1 s.is.length (cT s.is)), .ext false (.s false 4 s.cp.length (cP s.cp))]⟩ K R) = W ((∀ (M : Mem), 0 + 4 ≤ 4) ∧ bif !fE so == (0 : Int) then bif !fE so == (0 : Int) then R (SV.tup [SV.v (Value.slice none 0 0), SV.v (vi64 (fE so))]) [] else bif decide (r < (0 : Int)) then R (SV.tup [SV.v (Value.slice none 0 0), SV.v (vi64 (50 : Int))]) [] else (∀ (M : Mem), ¬k < (0 : Int)) ∧ bif decide (IntKind.wrap IntKind.i64 ((1 : Int) * (2 : Int) ^ if Int.toNat k ≤ 64 then Int.toNat k else 64) ≤ r) then R (SV.tup [SV.v (Value.slice none 0 0), SV.v (vi64 (50 : Int))]) [] else K [It.ops [0, 1, 1, 1, 1] 2, It.at [1, 1, 1, 1, 1]] (St.mk [(34, SV.v (vi64 r)), (33, SV.v (Value.pointer none)), (32, SV.bl false), (31, SV.v (Value.bool (decide (IntKind.wrap IntKind.i64 ((1 : Int) * (2 : Int) ^ if Int.toNat k ≤ 64 then Int.toNat k else 64) ≤ r)))), (30, SV.v (vi64 (IntKind.wrap IntKind.i64 ((1 : Int) * (2 : Int) ^ if Int.toNat k ≤ 64 then Int.toNat k else 64)))), (29, SV.v (vi64 k)), (28, SV.v (vi64 r)), (27, SV.bl false), (26, SV.v (Value.bool (decide (r < (0 : Int))))), (25, SV.v (vi64 r)), (23, SV.bl false), (22, SV.v (vi64 (fE so))), (13, SV.v (vi64 (fE so))), (12, SV.v (Value.pointer none)), (21, SV.v (vi64 (fE so))), (20, SV.v (Value.pointer none)), (14, SV.tup [SV.v (Value.pointer none), SV.v (vi64 (fE so))]), (19, SV.tup [SV.v (Value.pointer none), SV.v (vi64 (fE so))]), (18, SV.agg [SV.x 4 [], SV.x 5 [], SV.x 6 [], SV.x 7 []]), (17, SV.v (vi64 k)), (16, SV.agg [SV.v (vi64 c.1), SV.v (vi64 c.2), SV.v (vi64 c.3), SV.x 0 [], SV.x 1 [], SV.x 2 [], SV.x 3 []]), (15, SV.v (vi64 so)), (11, SV.v (vi64 (0 : Int))), (10, SV.v (Value.slice none 0 0)), (8, SV.p 9 0), (6, SV.p 8 0), (0, SV.v (vi64 so)), (1, SV.agg [SV.v (vi64 c.1), SV.v (vi64 c.2), SV.v (vi64 c.3), SV.x 0 [], SV.x 1 [], SV.x 2 [], SV.x 3 []]), (2, SV.v (vi64 k)), (3, SV.agg [SV.x 4 [], SV.x 5 [], SV.x 6 [], SV.x 7 []]), (4, SV.v (vi64 r))] [HO.ext false (Cell.s false 7 (List.length c.4) (cN c.4)), HO.ext false (Cell.s false 1 (List.length c.5) (cI c.5)), HO.ext false (Cell.s false 2 (List.length c.6) (cL c.6)), HO.ext false (Cell.s false 2 (List.length c.7) (cK c.7)), HO.ext false (Cell.s false 1 (List.length s.1) (cT s.1)), HO.ext false (Cell.s false 1 (List.length s.2) (cT s.2)), HO.ext false (Cell.s false 1 (List.length s.3) (cT s.3)), HO.ext false (Cell.s false 4 (List.length s.4) (cP s.4)), HO.cells [SV.v (vi64 c.1), SV.v (vi64 c.2), SV.v (vi64 c.3), SV.x 0 [], SV.x 1 [], SV.x 2 [], SV.x 3 []] 27, HO.cells [SV.x 4 [], SV.x 5 [], SV.x 6 [], SV.x 7 []] 49]) else lF c.1 c.2 c.3 (List.length c.4) (List.length c.5) (List.length c.6) (List.length c.7) (List.length s.1) (List.length s.2) (List.length s.3) (List.length s.4) (cN c.4) (cI c.5) (cL c.6) (cK c.7) (cT s.1) (cT s.2) (cT s.3) (cP s.4) fun (c_1 : Cir) (s_1 : Sht) => bif !fitV c_1 k s_1 == (0 : Int) then bif !fitV c_1 k s_1 == (0 : Int) then R (SV.tup [SV.v (Value.slice none 0 0), SV.v (vi64 (fitV c_1 k s_1))]) [] else bif decide (r < (0 : Int)) then R (SV.tup [SV.v (Value.slice none 0 0), SV.v (vi64 (50 : Int))]) [] else (∀ (M : Mem), ¬k < (0 : Int)) ∧ bif decide (IntKind.wrap IntKind.i64 ((1 : Int) * (2 : Int) ^ if Int.toNat k ≤ 64 then Int.toNat k else 64) ≤ r) then R (SV.tup [SV.v (Value.slice none 0 0), SV.v (vi64 (50 : Int))]) [] else K [It.ops [0, 1, 1, 1, 1] 2, It.at [1, 1, 1, 1, 1]] (St.mk [(34, SV.v (vi64 r)), (33, SV.v (Value.pointer none)), (32, SV.bl false), (31, SV.v (Value.bool (decide (IntKind.wrap IntKind.i64 ((1 : Int) * (2 : Int) ^ if Int.toNat k ≤ 64 then Int.toNat k else 64) ≤ r)))), (30, SV.v (vi64 (IntKind.wrap IntKind.i64 ((1 : Int) * (2 : Int) ^ if Int.toNat k ≤ 64 then Int.toNat k else 64)))), (29, SV.v (vi64 k)), (28, SV.v (vi64 r)), (27, SV.bl false), (26, SV.v (Value.bool (decide (r < (0 : Int))))), (25, SV.v (vi64 r)), (23, SV.bl false), (22, SV.v (vi64 (fitV c_1 k s_1))), (13, SV.v (vi64 (fitV c_1 k s_1))), (12, SV.v (Value.pointer none)), (21, SV.v (vi64 (fitV c_1 k s_1))), (20, SV.v (Value.pointer none)), (14, SV.tup [SV.v (Value.pointer none), SV.v (vi64 (fitV c_1 k s_1))]), (19, SV.tup [SV.v (Value.pointer none), SV.v (vi64 (fitV c_1 k s_1))]), (18, SV.agg [SV.x 4 [], SV.x 5 [], SV.x 6 [], SV.x 7 []]), (17, SV.v (vi64 k)), (16, SV.agg [SV.v (vi64 c.1), SV.v (vi64 c.2), SV.v (vi64 c.3), SV.x 0 [], SV.x 1 [], SV.x 2 [], SV.x 3 []]), (15, SV.v (vi64 so)), (11, SV.v (vi64 (0 : Int))), (10, SV.v (Value.slice none 0 0)), (8, SV.p 9 0), (6, SV.p 8 0), (0, SV.v (vi64 so)), (1, SV.agg [SV.v (vi64 c.1), SV.v (vi64 c.2), SV.v (vi64 c.3), SV.x 0 [], SV.x 1 [], SV.x 2 [], SV.x 3 []]), (2, SV.v (vi64 k)), (3, SV.agg [SV.x 4 [], SV.x 5 [], SV.x 6 [], SV.x 7 []]), (4, SV.v (vi64 r))] [HO.ext false (Cell.s false 7 (List.length c.4) (cN c.4)), HO.ext false (Cell.s false 1 (List.length c.5) (cI c.5)), HO.ext false (Cell.s false 2 (List.length c.6) (cL c.6)), HO.ext false (Cell.s false 2 (List.length c.7) (cK c.7)), HO.ext false (Cell.s false 1 (List.length s.1) (cT s.1)), HO.ext false (Cell.s false 1 (List.length s.2) (cT s.2)), HO.ext false (Cell.s false 1 (List.length s.3) (cT s.3)), HO.ext false (Cell.s false 4 (List.length s.4) (cP s.4)), HO.cells [SV.v (vi64 c.1), SV.v (vi64 c.2), SV.v (vi64 c.3), SV.x 0 [], SV.x 1 [], SV.x 2 [], SV.x 3 []] 27, HO.cells [SV.x 4 [], SV.x 5 [], SV.x 6 [], SV.x 7 []] 49]) else ∃ (l : List Nd), List.length c.4 = List.length l ∧ IsC (List.length c.4) 7 (cN c.4) (cN l) ∧ List.length l ≤ 4000000000000 ∧ bif decide (r < (0 : Int)) then R (SV.tup [SV.v (Value.slice none 0 0), SV.v (vi64 (50 : Int))]) [] else (∀ (M : Mem), ¬k < (0 : Int)) ∧ bif decide (IntKind.wrap IntKind.i64 ((1 : Int) * (2 : Int) ^ if Int.toNat k ≤ 64 then Int.toNat k else 64) ≤ r) then R (SV.tup [SV.v (Value.slice none 0 0), SV.v (vi64 (50 : Int))]) [] else lFk (lc 14 [Cell.v (vi64 c.1), Cell.v (vi64 c.2), Cell.v (vi64 c.3), Cell.s false 7 (List.length c.4) (cN c.4), Cell.s false 1 (List.length c.5) (cI c.5), Cell.s false 2 (List.length c.6) (cL c.6), Cell.s false 2 (List.length c.7) (cK c.7), Cell.s false 1 (List.length s.1) (cT s.1), Cell.s false 1 (List.length s.2) (cT s.2), Cell.s false 1 (List.length s.3) (cT s.3), Cell.s false 4 (List.length s.4) (cP s.4), Cell.v (vi64 so), Cell.v (vi64 k), Cell.s false 3 (List.length (qsN [] l)) (cQ (qsN [] l))]) fun (c : Cir) (s : Sht) (so k : Int) (qs : List (Int × Int × Int)) => R (SV.tup [SV.x 0 [], SV.v (vi64 (0 : Int))]) [HO.ext false (Cell.s false 4 (List.length (rowV c s so k qs r)) (cE (rowV c s so k qs r)))]) := by kernel_rfl
theorem bSro : Try.f30.body.isSome = true := by kernel_rfl
theorem nSro (c : Cir) (so k r : Int) : Nat.ble ([.v (.int .i64 so), .agg [.v (.int .i64 c.fx), .v (.int .i64 c.ad), .v (.int .i64 c.ins), .x 0 [], .x 1 [], .x 2 [], .x 3 []], .v (.int .i64 k), .agg [.x 4 [], .x 5 [], .x 6 [], .x 7 []], .v (.int .i64 r)] : List SV).length Try.f30.ntmps = true := by kernel_rfl
theorem sro_ok (c : Cir) (hc : c.ok) (s : Sht) (hs : s.ok) (so k r : Int) (Q : SV → List HO → Prop) (hq : Q (.tup [.x 0 [], .v (.int .i64 (rowR c s so k r).2)]) [.ext false (.s false 4 (rowR c s so k r).1.length (cE (rowR c s so k r).1))]) : FnOk Try.prog 30 [.v (.int .i64 so), .agg [.v (.int .i64 c.fx), .v (.int .i64 c.ad), .v (.int .i64 c.ins), .x 0 [], .x 1 [], .x 2 [], .x 3 []], .v (.int .i64 k), .agg [.x 4 [], .x 5 [], .x 6 [], .x 7 []], .v (.int .i64 r)] [.ext false (.s false 7 c.nodes.length (cN c.nodes)), .ext false (.s false 1 c.gates.length (cI c.gates)), .ext false (.s false 2 c.looks.length (cL c.looks)), .ext false (.s false 2 c.eqs.length (cK c.eqs)), .ext false (.s false 1 s.fx.length (cT s.fx)), .ext false (.s false 1 s.ad.length (cT s.ad)), .ext false (.s false 1 s.is.length (cT s.is)), .ext false (.s false 4 s.cp.length (cP s.cp))] Q := by
  refine FnOk.nilTX 4 (cE []) (fn_of_ok Try.func30 bSro ?_ ?_)
  · exact nSro c so k r
  refine run_sound hm 60 ((sroS c s so k r _ _).mpr ⟨?_⟩)
  rw [rowR] at hq
  simp only [cond_not, cond_beq, cond_dec]
  have bad : ∀ z : Int, Q (.tup [.x 0 [], .v (.int .i64 z)]) [.ext false (.s false 4 0 (cE []))] → Q (SV.tup [.v (.slice none 0 0), .v (vi64 z)]) [] ∨ ∃ y, SV.tup [.v (.slice none 0 0), .v (vi64 z)] = SV.tup [.v (.slice none 0 0), .v y] ∧ True ∧ Q (.tup [.x 0 [], .v y]) [.ext false (.s false 4 0 (cE []))] := fun z hz => .inr ⟨_, rfl, trivial, hz⟩
  refine And.intro (fun _ => by omega) (ite_intro (fun h0 => ?_) (fun h0 => ?_))
  · rw [if_neg (fun h => h h0)] at hq
    refine lF_mk c hc s hs (ite_intro (fun h1 => ?_) (fun h1 => ?_))
    · rw [if_neg (fun h => h h1)] at hq
      obtain ⟨hk0, hk3, _⟩ := fitV_zero h1
      have hl := chkC_nodes hk0
      have hl2 := qsN_len c.nodes []
      rw [List.length_nil] at hl2
      refine ⟨c.nodes, rfl, IsC.refl _ _ _, by omega, ite_intro (fun h2 => ?_) (fun h2 => And.intro (fun _ => by omega) (ite_intro (fun h3 => ?_) (fun h3 => ?_)))⟩
      · rw [if_pos h2] at hq; exact bad _ hq
      · rw [if_neg h2, if_pos (show nOf k ≤ r from h3)] at hq; exact bad _ hq
      · rw [if_neg h2, if_neg (show ¬ nOf k ≤ r from h3)] at hq
        exact lFk_mk c hc s hs so k (by omega) (qsN [] c.nodes) (by omega) (.inl hq)
    · rw [if_neg h1]
      rw [if_pos h1] at hq
      exact bad _ hq
  · rw [if_neg h0]
    rw [if_pos h0] at hq
    exact bad _ hq
noncomputable def gSro : List SV → List HO → Option ((SV → List HO → Prop) → Prop)
  | [.v (.int .i64 so), .agg [.v (.int .i64 fx), .v (.int .i64 ad), .v (.int .i64 ins), .x 0 [], .x 1 [], .x 2 [], .x 3 []], .v (.int .i64 k), .agg [.x 4 [], .x 5 [], .x 6 [], .x 7 []], .v (.int .i64 r)], [.ext false (.s false 7 n0 c0), .ext false (.s false 1 n1 c1), .ext false (.s false 2 n2 c2), .ext false (.s false 2 n3 c3), .ext false (.s false 1 m0 d0), .ext false (.s false 1 m1 d1), .ext false (.s false 1 m2 d2), .ext false (.s false 4 m3 d3)] =>
    some fun Q => lF fx ad ins n0 n1 n2 n3 m0 m1 m2 m3 c0 c1 c2 c3 d0 d1 d2 d3 fun c s => Q (.tup [.x 0 [], .v (.int .i64 (rowR c s so k r).2)]) [.ext false (.s false 4 (rowR c s so k r).1.length (cE (rowR c s so k r).1))]
  | _, _ => none
theorem gSro_ok (args : List SV) (h : List HO) (tr : (SV → List HO → Prop) → Prop) (Q : SV → List HO → Prop) (hc : gSro args h = some tr) (ht : tr Q) : FnOk Try.prog 30 args h Q := by
  unfold gSro at hc
  split at hc
  · simp only [Option.some.injEq] at hc
    subst hc
    obtain ⟨c, rfl, rfl, rfl, ⟨rfl, e0⟩, ⟨rfl, e1⟩, ⟨rfl, e2⟩, ⟨rfl, e3⟩, hk, ht2⟩ := ht.h.h
    obtain ⟨s, ⟨rfl, e4⟩, ⟨rfl, e5⟩, ⟨rfl, e6⟩, ⟨rfl, e7⟩, hs, hq⟩ := ht2.h
    exact FnOk.ac (sro_ok c hk s hs _ _ _ Q hq) ⟨⟨rfl, rfl, rfl, rfl, e0⟩, ⟨rfl, rfl, rfl, rfl, e1⟩, ⟨rfl, rfl, rfl, rfl, e2⟩, ⟨rfl, rfl, rfl, rfl, e3⟩, ⟨rfl, rfl, rfl, rfl, e4⟩, ⟨rfl, rfl, rfl, rfl, e5⟩, ⟨rfl, rfl, rfl, rfl, e6⟩, ⟨rfl, rfl, rfl, rfl, e7⟩, trivial⟩
  · cases hc
noncomputable def K76 : Con Try.prog := K75.add 30 gSro gSro_ok
end Go.Proofs.Ytlmjdcbhpffanaa
/- What a lookup asks for. -/
namespace Go.Pl
open Go.Sx
/-- The values that a lookup asks for, noughts behind. -/
def tkN (l : List Nat) (ns : List Int) (j : Nat) : Nat := if j < ns.length then gE l (gI ns j).toNat else 0
structure lTk (nl nn : Nat) (cl cn : Nat → Nat → Cell) (k : List Nat → List Int → Prop) : Prop where
  h : ∃ (l : List Nat) (ns : List Int), nl = l.length ∧ IsC nl 4 cl (cE l) ∧ nn = ns.length ∧ IsC nn 1 cn (cI ns) ∧ ns.length ≤ 4 ∧ (∀ g ∈ ns, 0 ≤ g ∧ g < (l.length : Int)) ∧ k l ns
theorem lTk_mk (l : List Nat) (ns : List Int) (h4 : ns.length ≤ 4) (hg : ∀ g ∈ ns, 0 ≤ g ∧ g < (l.length : Int)) {k : List Nat → List Int → Prop} (h : k l ns) : lTk l.length ns.length (cE l) (cI ns) k := ⟨⟨l, ns, rfl, IsC.refl _ _ _, rfl, IsC.refl _ _ _, h4, hg, h⟩⟩
end Go.Pl
namespace Go.Proofs.Ytlmjdcbhpffanaa
open Go.Sx Go.Pl
set_option linter.unusedVariables false
set_option maxRecDepth 100000
theorem pkS (b0 b1 : Bool) (l : List Nat) (ns : List Int) (K : List It → St → Prop) (R : SV → List HO → Prop) : W (xwp Try.prog X K76 [] 60 (fxOf Try.f72 [([0,1,0,1,1], 5)] []) [] [.at []] ⟨argsS 0 [.x 0 [], .x 1 []], [.ext b0 (.s false 4 l.length (cE l)), .ext b1 (.s false 1 ns.length (cI ns))]⟩ K R) = W (bif decide ((0 : Int) < (↑(List.length ns) : Int)) then (∀ (M : Mem), (0 : Int) ≤ (0 : Int) ∧ (0 : Int) < (↑(List.length ns) : Int)) ∧ (∀ (M : Mem), 0 < List.length ns) ∧ (∀ (M : Mem), (0 : Int) ≤ gI ns 0 ∧ gI ns 0 < (↑(List.length l) : Int)) ∧ (∀ (M : Mem), Int.toNat (gI ns 0) < List.length l) ∧ (∀ (M : Mem), (0 : Int) ≤ (0 : Int) ∧ (0 : Int) < (4 : Int)) ∧ (∀ (M : Mem), 0 + 4 ≤ 16) ∧ bif decide ((1 : Int) < (↑(List.length ns) : Int)) then (∀ (M : Mem), (0 : Int) ≤ (1 : Int) ∧ (1 : Int) < (↑(List.length ns) : Int)) ∧ (∀ (M : Mem), 1 < List.length ns) ∧ (∀ (M : Mem), (0 : Int) ≤ gI ns 1 ∧ gI ns 1 < (↑(List.length l) : Int)) ∧ (∀ (M : Mem), Int.toNat (gI ns 1) < List.length l) ∧ (∀ (M : Mem), (0 : Int) ≤ (1 : Int) ∧ (1 : Int) < (4 : Int)) ∧ (∀ (M : Mem), 4 + 4 ≤ 16) ∧ bif decide ((2 : Int) < (↑(List.length ns) : Int)) then (∀ (M : Mem), (0 : Int) ≤ (2 : Int) ∧ (2 : Int) < (↑(List.length ns) : Int)) ∧ (∀ (M : Mem), 2 < List.length ns) ∧ (∀ (M : Mem), (0 : Int) ≤ gI ns 2 ∧ gI ns 2 < (↑(List.length l) : Int)) ∧ (∀ (M : Mem), Int.toNat (gI ns 2) < List.length l) ∧ (∀ (M : Mem), (0 : Int) ≤ (2 : Int) ∧ (2 : Int) < (4 : Int)) ∧ (∀ (M : Mem), 8 + 4 ≤ 16) ∧ bif decide ((3 : Int) < (↑(List.length ns) : Int)) then (∀ (M : Mem), (0 : Int) ≤ (3 : Int) ∧ (3 : Int) < (↑(List.length ns) : Int)) ∧ (∀ (M : Mem), 3 < List.length ns) ∧ (∀ (M : Mem), (0 : Int) ≤ gI ns 3 ∧ gI ns 3 < (↑(List.length l) : Int)) ∧ (∀ (M : Mem), Int.toNat (gI ns 3) < List.length l) ∧ (∀ (M : Mem), (0 : Int) ≤ (3 : Int) ∧ (3 : Int) < (4 : Int)) ∧ (∀ (M : Mem), 12 + 4 ≤ 16) ∧ bif decide ((4 : Int) < (↑(List.length ns) : Int)) then (∀ (M : Mem), (0 : Int) ≤ (4 : Int) ∧ (4 : Int) < (↑(List.length ns) : Int)) ∧ (∀ (M : Mem), 4 < List.length ns) ∧ (∀ (M : Mem), (0 : Int) ≤ gI ns 4 ∧ gI ns 4 < (↑(List.length l) : Int)) ∧ (∀ (M : Mem), Int.toNat (gI ns 4) < List.length l) ∧ (∀ (M : Mem), (0 : Int) ≤ (4 : Int) ∧ (4 : Int) < (4 : Int)) ∧ (∀ (M : Mem), 16 + 4 ≤ 16) ∧ False else (∀ (M : Mem), 0 + 16 ≤ 16) ∧ R (SV.agg [SV.v (vu64 (↑(limb (gE l (Int.toNat (gI ns 0))) 0) : Int)), SV.v (vu64 (↑(limb (gE l (Int.toNat (gI ns 0))) 1) : Int)), SV.v (vu64 (↑(limb (gE l (Int.toNat (gI ns 0))) 2) : Int)), SV.v (vu64 (↑(limb (gE l (Int.toNat (gI ns 0))) 3) : Int)), SV.v (vu64 (↑(limb (gE l (Int.toNat (gI ns 1))) 0) : Int)), SV.v (vu64 (↑(limb (gE l (Int.toNat (gI ns 1))) 1) : Int)), SV.v (vu64 (↑(limb (gE l (Int.toNat (gI ns 1))) 2) : Int)), SV.v (vu64 (↑(limb (gE l (Int.toNat (gI ns 1))) 3) : Int)), SV.v (vu64 (↑(limb (gE l (Int.toNat (gI ns 2))) 0) : Int)), SV.v (vu64 (↑(limb (gE l (Int.toNat (gI ns 2))) 1) : Int)), SV.v (vu64 (↑(limb (gE l (Int.toNat (gI ns 2))) 2) : Int)), SV.v (vu64 (↑(limb (gE l (Int.toNat (gI ns 2))) 3) : Int)), SV.v (vu64 (↑(limb (gE l (Int.toNat (gI ns 3))) 0) : Int)), SV.v (vu64 (↑(limb (gE l (Int.toNat (gI ns 3))) 1) : Int)), SV.v (vu64 (↑(limb (gE l (Int.toNat (gI ns 3))) 2) : Int)), SV.v (vu64 (↑(limb (gE l (Int.toNat (gI ns 3))) 3) : Int))]) [] else (∀ (M : Mem), 0 + 16 ≤ 16) ∧ R (SV.agg [SV.v (vu64 (↑(limb (gE l (Int.toNat (gI ns 0))) 0) : Int)), SV.v (vu64 (↑(limb (gE l (Int.toNat (gI ns 0))) 1) : Int)), SV.v (vu64 (↑(limb (gE l (Int.toNat (gI ns 0))) 2) : Int)), SV.v (vu64 (↑(limb (gE l (Int.toNat (gI ns 0))) 3) : Int)), SV.v (vu64 (↑(limb (gE l (Int.toNat (gI ns 1))) 0) : Int)), SV.v (vu64 (↑(limb (gE l (Int.toNat (gI ns 1))) 1) : Int)), SV.v (vu64 (↑(limb (gE l (Int.toNat (gI ns 1))) 2) : Int)), SV.v (vu64 (↑(limb (gE l (Int.toNat (gI ns 1))) 3) : Int)), SV.v (vu64 (↑(limb (gE l (Int.toNat (gI ns 2))) 0) : Int)), SV.v (vu64 (↑(limb (gE l (Int.toNat (gI ns 2))) 1) : Int)), SV.v (vu64 (↑(limb (gE l (Int.toNat (gI ns 2))) 2) : Int)), SV.v (vu64 (↑(limb (gE l (Int.toNat (gI ns 2))) 3) : Int)), SV.v (vu64 (0 : Int)), SV.v (vu64 (0 : Int)), SV.v (vu64 (0 : Int)), SV.v (vu64 (0 : Int))]) [] else (∀ (M : Mem), 0 + 16 ≤ 16) ∧ R (SV.agg [SV.v (vu64 (↑(limb (gE l (Int.toNat (gI ns 0))) 0) : Int)), SV.v (vu64 (↑(limb (gE l (Int.toNat (gI ns 0))) 1) : Int)), SV.v (vu64 (↑(limb (gE l (Int.toNat (gI ns 0))) 2) : Int)), SV.v (vu64 (↑(limb (gE l (Int.toNat (gI ns 0))) 3) : Int)), SV.v (vu64 (↑(limb (gE l (Int.toNat (gI ns 1))) 0) : Int)), SV.v (vu64 (↑(limb (gE l (Int.toNat (gI ns 1))) 1) : Int)), SV.v (vu64 (↑(limb (gE l (Int.toNat (gI ns 1))) 2) : Int)), SV.v (vu64 (↑(limb (gE l (Int.toNat (gI ns 1))) 3) : Int)), SV.v (vu64 (0 : Int)), SV.v (vu64 (0 : Int)), SV.v (vu64 (0 : Int)), SV.v (vu64 (0 : Int)), SV.v (vu64 (0 : Int)), SV.v (vu64 (0 : Int)), SV.v (vu64 (0 : Int)), SV.v (vu64 (0 : Int))]) [] else (∀ (M : Mem), 0 + 16 ≤ 16) ∧ R (SV.agg [SV.v (vu64 (↑(limb (gE l (Int.toNat (gI ns 0))) 0) : Int)), SV.v (vu64 (↑(limb (gE l (Int.toNat (gI ns 0))) 1) : Int)), SV.v (vu64 (↑(limb (gE l (Int.toNat (gI ns 0))) 2) : Int)), SV.v (vu64 (↑(limb (gE l (Int.toNat (gI ns 0))) 3) : Int)), SV.v (vu64 (0 : Int)), SV.v (vu64 (0 : Int)), SV.v (vu64 (0 : Int)), SV.v (vu64 (0 : Int)), SV.v (vu64 (0 : Int)), SV.v (vu64 (0 : Int)), SV.v (vu64 (0 : Int)), SV.v (vu64 (0 : Int)), SV.v (vu64 (0 : Int)), SV.v (vu64 (0 : Int)), SV.v (vu64 (0 : Int)), SV.v (vu64 (0 : Int))]) [] else (∀ (M : Mem), 16 ≤ 16) ∧ R (SV.agg [SV.v (vu64 (0 : Int)), SV.v (vu64 (0 : Int)), SV.v (vu64 (0 : Int)), SV.v (vu64 (0 : Int)), SV.v (vu64 (0 : Int)), SV.v (vu64 (0 : Int)), SV.v (vu64 (0 : Int)), SV.v (vu64 (0 : Int)), SV.v (vu64 (0 : Int)), SV.v (vu64 (0 : Int)), SV.v (vu64 (0 : Int)), SV.v (vu64 (0 : Int)), SV.v (vu64 (0 : Int)), SV.v (vu64 (0 : Int)), SV.v (vu64 (0 : Int)), SV.v (vu64 (0 : Int))]) []) := by kernel_rfl
theorem bPk : Try.f72.body.isSome = true := by kernel_rfl
theorem nPk : Nat.ble [SV.x 0 [], .x 1 []].length Try.f72.ntmps = true := by kernel_rfl
theorem pk_ok (b0 b1 : Bool) (l : List Nat) (ns : List Int) (h4 : ns.length ≤ 4) (hg : ∀ g ∈ ns, 0 ≤ g ∧ g < (l.length : Int)) (Q : SV → List HO → Prop) (hq : Q (.agg [.v (.int .u64 (limb (tkN l ns 0) 0 : Nat)), .v (.int .u64 (limb (tkN l ns 0) 1 : Nat)), .v (.int .u64 (limb (tkN l ns 0) 2 : Nat)), .v (.int .u64 (limb (tkN l ns 0) 3 : Nat)), .v (.int .u64 (limb (tkN l ns 1) 0 : Nat)), .v (.int .u64 (limb (tkN l ns 1) 1 : Nat)), .v (.int .u64 (limb (tkN l ns 1) 2 : Nat)), .v (.int .u64 (limb (tkN l ns 1) 3 : Nat)), .v (.int .u64 (limb (tkN l ns 2) 0 : Nat)), .v (.int .u64 (limb (tkN l ns 2) 1 : Nat)), .v (.int .u64 (limb (tkN l ns 2) 2 : Nat)), .v (.int .u64 (limb (tkN l ns 2) 3 : Nat)), .v (.int .u64 (limb (tkN l ns 3) 0 : Nat)), .v (.int .u64 (limb (tkN l ns 3) 1 : Nat)), .v (.int .u64 (limb (tkN l ns 3) 2 : Nat)), .v (.int .u64 (limb (tkN l ns 3) 3 : Nat))]) []) : FnOk Try.prog 72 [.x 0 [], .x 1 []] [.ext b0 (.s false 4 l.length (cE l)), .ext b1 (.s false 1 ns.length (cI ns))] Q := by
  refine fn_of_ok Try.func72 bPk ?_ ?_
  · exact nPk
  refine run_sound hm 60 ((pkS b0 b1 l ns _ _).mpr ⟨?_⟩)
  have g : ∀ j, j < ns.length → 0 ≤ gI ns j ∧ gI ns j < (l.length : Int) := fun j hj => hg _ (gI_mem hj)
  simp only [cond_dec]
  refine ite_intro (fun h0 => ?_) (fun h0 => ?_)
  · have g0 := g 0 (by omega)
    refine And.intro (fun _ => by omega) (And.intro (fun _ => by omega) (And.intro (fun _ => by omega) (And.intro (fun _ => by omega) (And.intro (fun _ => by omega) (And.intro (fun _ => by omega) (ite_intro (fun h1 => ?_) (fun h1 => ?_)))))))
    · have g1 := g 1 (by omega)
      refine And.intro (fun _ => by omega) (And.intro (fun _ => by omega) (And.intro (fun _ => by omega) (And.intro (fun _ => by omega) (And.intro (fun _ => by omega) (And.intro (fun _ => by omega) (ite_intro (fun h2 => ?_) (fun h2 => ?_)))))))
      · have g2 := g 2 (by omega)
        refine And.intro (fun _ => by omega) (And.intro (fun _ => by omega) (And.intro (fun _ => by omega) (And.intro (fun _ => by omega) (And.intro (fun _ => by omega) (And.intro (fun _ => by omega) (ite_intro (fun h3 => ?_) (fun h3 => ?_)))))))
        · have g3 := g 3 (by omega)
          refine And.intro (fun _ => by omega) (And.intro (fun _ => by omega) (And.intro (fun _ => by omega) (And.intro (fun _ => by omega) (And.intro (fun _ => by omega) (And.intro (fun _ => by omega) (ite_intro (fun h5 => absurd h5 (by omega)) (fun h5 => ?_)))))))
          rw [show tkN l ns 0 = gE l (gI ns 0).toNat from if_pos (by omega)] at hq
          rw [show tkN l ns 1 = gE l (gI ns 1).toNat from if_pos (by omega)] at hq
          rw [show tkN l ns 2 = gE l (gI ns 2).toNat from if_pos (by omega)] at hq
          rw [show tkN l ns 3 = gE l (gI ns 3).toNat from if_pos (by omega)] at hq
          exact And.intro (fun _ => by omega) hq
        · skip
          rw [show tkN l ns 0 = gE l (gI ns 0).toNat from if_pos (by omega)] at hq
          rw [show tkN l ns 1 = gE l (gI ns 1).toNat from if_pos (by omega)] at hq
          rw [show tkN l ns 2 = gE l (gI ns 2).toNat from if_pos (by omega)] at hq
          rw [show tkN l ns 3 = 0 from if_neg (by omega)] at hq
          simp only [limb_zero] at hq
          exact And.intro (fun _ => by omega) hq
      · skip
        rw [show tkN l ns 0 = gE l (gI ns 0).toNat from if_pos (by omega)] at hq
        rw [show tkN l ns 1 = gE l (gI ns 1).toNat from if_pos (by omega)] at hq
        rw [show tkN l ns 2 = 0 from if_neg (by omega)] at hq
        rw [show tkN l ns 3 = 0 from if_neg (by omega)] at hq
        simp only [limb_zero] at hq
        exact And.intro (fun _ => by omega) hq
    · skip
      rw [show tkN l ns 0 = gE l (gI ns 0).toNat from if_pos (by omega)] at hq
      rw [show tkN l ns 1 = 0 from if_neg (by omega)] at hq
      rw [show tkN l ns 2 = 0 from if_neg (by omega)] at hq
      rw [show tkN l ns 3 = 0 from if_neg (by omega)] at hq
      simp only [limb_zero] at hq
      exact And.intro (fun _ => by omega) hq
  · skip
    rw [show tkN l ns 0 = 0 from if_neg (by omega)] at hq
    rw [show tkN l ns 1 = 0 from if_neg (by omega)] at hq
    rw [show tkN l ns 2 = 0 from if_neg (by omega)] at hq
    rw [show tkN l ns 3 = 0 from if_neg (by omega)] at hq
    simp only [limb_zero] at hq
    exact And.intro (fun _ => by omega) hq
noncomputable def gPk : List SV → List HO → Option ((SV → List HO → Prop) → Prop)
  | [.x 0 [], .x 1 []], [.ext _ (.s false 4 nl cl), .ext _ (.s false 1 nn cn)] => some fun Q => lTk nl nn cl cn fun l ns => Q (.agg [.v (.int .u64 (limb (tkN l ns 0) 0 : Nat)), .v (.int .u64 (limb (tkN l ns 0) 1 : Nat)), .v (.int .u64 (limb (tkN l ns 0) 2 : Nat)), .v (.int .u64 (limb (tkN l ns 0) 3 : Nat)), .v (.int .u64 (limb (tkN l ns 1) 0 : Nat)), .v (.int .u64 (limb (tkN l ns 1) 1 : Nat)), .v (.int .u64 (limb (tkN l ns 1) 2 : Nat)), .v (.int .u64 (limb (tkN l ns 1) 3 : Nat)), .v (.int .u64 (limb (tkN l ns 2) 0 : Nat)), .v (.int .u64 (limb (tkN l ns 2) 1 : Nat)), .v (.int .u64 (limb (tkN l ns 2) 2 : Nat)), .v (.int .u64 (limb (tkN l ns 2) 3 : Nat)), .v (.int .u64 (limb (tkN l ns 3) 0 : Nat)), .v (.int .u64 (limb (tkN l ns 3) 1 : Nat)), .v (.int .u64 (limb (tkN l ns 3) 2 : Nat)), .v (.int .u64 (limb (tkN l ns 3) 3 : Nat))]) []
  | _, _ => none
theorem gPk_ok (args : List SV) (h : List HO) (tr : (SV → List HO → Prop) → Prop) (Q : SV → List HO → Prop) (hc : gPk args h = some tr) (ht : tr Q) : FnOk Try.prog 72 args h Q := by
  unfold gPk at hc
  split at hc
  · simp only [Option.some.injEq] at hc
    subst hc
    obtain ⟨l, ns, rfl, e0, rfl, e1, h4, hg, hq⟩ := ht.h
    exact FnOk.ac (pk_ok _ _ l ns h4 hg Q hq) ⟨⟨rfl, rfl, rfl, rfl, e0⟩, ⟨rfl, rfl, rfl, rfl, e1⟩, trivial⟩
  · cases hc
noncomputable def K77 : Con Try.prog := K76.add 72 gPk gPk_ok
end Go.Proofs.Ytlmjdcbhpffanaa
/- The rows at which a lookup isn't met. -/
namespace Go.Pl
open Go.Sx
/-- What a lookup asks for, as a key. -/
noncomputable def tK (l : List Nat) (ns : List Int) : List Int := [(limb (tkN l ns 0) 0 : Int), (limb (tkN l ns 0) 1 : Int), (limb (tkN l ns 0) 2 : Int), (limb (tkN l ns 0) 3 : Int), (limb (tkN l ns 1) 0 : Int), (limb (tkN l ns 1) 1 : Int), (limb (tkN l ns 1) 2 : Int), (limb (tkN l ns 1) 3 : Int), (limb (tkN l ns 2) 0 : Int), (limb (tkN l ns 2) 1 : Int), (limb (tkN l ns 2) 2 : Int), (limb (tkN l ns 2) 3 : Int), (limb (tkN l ns 3) 0 : Int), (limb (tkN l ns 3) 1 : Int), (limb (tkN l ns 3) 2 : Int), (limb (tkN l ns 3) 3 : Int)]
noncomputable def keysT (rows : List (List Nat)) (tabs : List Int) : List (List Int) := rows.foldl (fun ks r => mput ks (tK r tabs)) []
/-- The rows, from one on, at which a lookup isn't met. -/
noncomputable def missT (ks : List (List Int)) (ins : List Int) : Int → List (List Nat) → List Int
  | i, r :: t => (bif mhas ks (tK r ins) then [] else [i]) ++ missT ks ins (i + 1) t
  | _, [] => []
noncomputable def lookV (rows : List (List Nat)) (ins tabs : List Int) : List Int := missT (keysT rows tabs) ins 0 rows
structure lLo (nr ni nt : Nat) (cr ci ct : Nat → Nat → Cell) (k : List (List Nat) → List Int → List Int → Prop) : Prop where
  h : ∃ (rows : List (List Nat)) (ins tabs : List Int), (nr = rows.length ∧ IsC nr 1 cr (cT rows)) ∧ (ni = ins.length ∧ IsC ni 1 ci (cI ins)) ∧ (nt = tabs.length ∧ IsC nt 1 ct (cI tabs)) ∧ rows.length ≤ 4000000000000 ∧ ins.length ≤ 4 ∧ tabs.length ≤ 4 ∧ (∀ r ∈ rows, (∀ g ∈ ins, 0 ≤ g ∧ g < (r.length : Int)) ∧ ∀ g ∈ tabs, 0 ≤ g ∧ g < (r.length : Int)) ∧ k rows ins tabs
theorem missT_len (ks : List (List Int)) (ins : List Int) : ∀ (rows : List (List Nat)) (i : Int), (missT ks ins i rows).length ≤ rows.length
  | [], _ => Nat.le_refl _
  | r :: t, i => by
    have := missT_len ks ins t (i + 1)
    rw [missT, List.length_append, List.length_cons]
    cases mhas ks (tK r ins) <;> simp <;> omega
end Go.Pl
namespace Go.Proofs.Ytlmjdcbhpffanaa
open Go.Sx Go.Pl
set_option linter.unusedVariables false
set_option maxRecDepth 100000
theorem slkS (b0 b1 b2 : Bool) (rows : List (List Nat)) (ins tabs : List Int) (K : List It → St → Prop) (R : SV → List HO → Prop) : W (xwp Try.prog X K77 [] 60 (fxOf Try.f51 [] [⟨[0,1,0,1,1], [16,15,14,5,3,0], []⟩, ⟨[0,1,0,1,1,1,1], [29,28,27,8,5,3], [(8,3,1)]⟩]) [] [.at []] ⟨argsS 0 [.x 0 [], .agg [.x 1 [], .x 2 []]], [.ext b0 (.s false 1 rows.length (cT rows)), .ext b1 (.s false 1 ins.length (cI ins)), .ext b2 (.s false 1 tabs.length (cI tabs))]⟩ K R) = W (K [It.at [0, 1, 0, 1, 1], It.blk 0, It.at [1, 1, 1]] (St.mk [(16, SV.v (vi64 (0 : Int))), (15, SV.v (vi64 (↑(List.length rows) : Int))), (14, SV.x 0 []), (5, SV.m 1), (3, SV.p 2 0), (0, SV.x 0 [])] [HO.ext b0 (Cell.s false 1 (List.length rows) (cT rows)), HO.mp true [IntKind.u64, IntKind.u64, IntKind.u64, IntKind.u64, IntKind.u64, IntKind.u64, IntKind.u64, IntKind.u64, IntKind.u64, IntKind.u64, IntKind.u64, IntKind.u64, IntKind.u64, IntKind.u64, IntKind.u64, IntKind.u64] [] Mc.unit, HO.cells [SV.x 3 [], SV.x 4 []] 86, HO.ext b1 (Cell.s false 1 (List.length ins) (cI ins)), HO.ext b2 (Cell.s false 1 (List.length tabs) (cI tabs))])) := by kernel_rfl
theorem slk1 (b0 b1 b2 : Bool) (rows : List (List Nat)) (ins tabs : List Int) (kl : List (List Int)) (k M : Nat) (K : List It → St → Prop) (R : SV → List HO → Prop) : W (xwp Try.prog X K77 [] 60 (fxOf Try.f51 [] [⟨[0,1,0,1,1], [16,15,14,5,3,0], []⟩, ⟨[0,1,0,1,1,1,1], [29,28,27,8,5,3], [(8,3,1)]⟩]) [] (.at [0,0,1,0,1,1] :: .rnd [0,0,1,0,1,1] M :: [.blk 0, .at [1,1,1]]) ⟨[(16, .v (.int .i64 (k : Int))), (15, .v (.int .i64 (rows.length : Int))), (14, .x 0 []), (5, .m 1), (3, .p 2 0), (0, .x 0 [])], [.ext b0 (.s false 1 rows.length (cT rows)), .mp true [.u64, .u64, .u64, .u64, .u64, .u64, .u64, .u64, .u64, .u64, .u64, .u64, .u64, .u64, .u64, .u64] kl .unit, .cells [.x 3 [], .x 4 []] 86, .ext b1 (.s false 1 ins.length (cI ins)), .ext b2 (.s false 1 tabs.length (cI tabs))]⟩ K R) = W (bif decide ((↑k : Int) < (↑(List.length rows) : Int)) then (∀ (M : Mem), (0 : Int) ≤ (↑k : Int) ∧ (↑k : Int) < (↑(List.length rows) : Int)) ∧ (∀ (M : Mem), k < List.length rows) ∧ (∀ (M : Mem), k < List.length rows) ∧ lTk (List.length (gT rows k)) (List.length tabs) (cE (gT rows k)) (cI tabs) fun (l : List Nat) (ns : List Int) => K [It.rnd [0, 0, 1, 0, 1, 1] M, It.blk 0, It.at [1, 1, 1]] (St.mk [(16, SV.v (vi64 (IntKind.wrap IntKind.i64 ((↑k : Int) + (1 : Int))))), (15, SV.v (vi64 (↑(List.length rows) : Int))), (14, SV.x 0 []), (5, SV.m 1), (3, SV.p 2 0), (0, SV.x 0 [])] [HO.ext b0 (Cell.s false 1 (List.length rows) (cT rows)), HO.mp true [IntKind.u64, IntKind.u64, IntKind.u64, IntKind.u64, IntKind.u64, IntKind.u64, IntKind.u64, IntKind.u64, IntKind.u64, IntKind.u64, IntKind.u64, IntKind.u64, IntKind.u64, IntKind.u64, IntKind.u64, IntKind.u64] (mput kl [(↑(limb (tkN l ns 0) 0) : Int), (↑(limb (tkN l ns 0) 1) : Int), (↑(limb (tkN l ns 0) 2) : Int), (↑(limb (tkN l ns 0) 3) : Int), (↑(limb (tkN l ns 1) 0) : Int), (↑(limb (tkN l ns 1) 1) : Int), (↑(limb (tkN l ns 1) 2) : Int), (↑(limb (tkN l ns 1) 3) : Int), (↑(limb (tkN l ns 2) 0) : Int), (↑(limb (tkN l ns 2) 1) : Int), (↑(limb (tkN l ns 2) 2) : Int), (↑(limb (tkN l ns 2) 3) : Int), (↑(limb (tkN l ns 3) 0) : Int), (↑(limb (tkN l ns 3) 1) : Int), (↑(limb (tkN l ns 3) 2) : Int), (↑(limb (tkN l ns 3) 3) : Int)]) Mc.unit, HO.cells [SV.x 3 [], SV.x 4 []] 86, HO.ext b1 (Cell.s false 1 (List.length ins) (cI ins)), HO.ext b2 (Cell.s false 1 (List.length tabs) (cI tabs))]) else K [It.at [0, 1, 0, 1, 1, 1, 1], It.blk 2, It.at [1, 1, 1, 1, 1]] (St.mk [(29, SV.v (vi64 (0 : Int))), (28, SV.v (vi64 (↑(List.length rows) : Int))), (27, SV.x 0 []), (8, SV.o 1), (5, SV.m 2), (3, SV.p 3 0)] [HO.ext b0 (Cell.s false 1 (List.length rows) (cT rows)), HO.rowc 3 1 0 (Ct.lit 1 []), HO.mp true [IntKind.u64, IntKind.u64, IntKind.u64, IntKind.u64, IntKind.u64, IntKind.u64, IntKind.u64, IntKind.u64, IntKind.u64, IntKind.u64, IntKind.u64, IntKind.u64, IntKind.u64, IntKind.u64, IntKind.u64, IntKind.u64] kl Mc.unit, HO.cells [SV.x 4 [], SV.x 5 []] 86, HO.ext b1 (Cell.s false 1 (List.length ins) (cI ins)), HO.ext b2 (Cell.s false 1 (List.length tabs) (cI tabs))])) := by kernel_rfl
theorem slk2 (b0 b1 b2 : Bool) (rows : List (List Nat)) (ins tabs : List Int) (kl : List (List Int)) (os : List Int) (m k M : Nat) (K : List It → St → Prop) (R : SV → List HO → Prop) : W (xwp Try.prog X K77 [] 60 (fxOf Try.f51 [] [⟨[0,1,0,1,1], [16,15,14,5,3,0], []⟩, ⟨[0,1,0,1,1,1,1], [29,28,27,8,5,3], [(8,3,1)]⟩]) [] (.at [0,0,1,0,1,1,1,1] :: .rnd [0,0,1,0,1,1,1,1] M :: [.blk 2, .at [1,1,1,1,1]]) ⟨[(29, .v (.int .i64 (k : Int))), (28, .v (.int .i64 (rows.length : Int))), (27, .x 0 []), (8, .o 1), (5, .m 2), (3, .p 3 0)], [.ext b0 (.s false 1 rows.length (cT rows)), .rowc 3 1 m (.fn (cI os)), .mp true [.u64, .u64, .u64, .u64, .u64, .u64, .u64, .u64, .u64, .u64, .u64, .u64, .u64, .u64, .u64, .u64] kl .unit, .cells [.x 4 [], .x 5 []] 86, .ext b1 (.s false 1 ins.length (cI ins)), .ext b2 (.s false 1 tabs.length (cI tabs))]⟩ K R) = W (bif decide ((↑k : Int) < (↑(List.length rows) : Int)) then (∀ (M : Mem), (0 : Int) ≤ (↑k : Int) ∧ (↑k : Int) < (↑(List.length rows) : Int)) ∧ (∀ (M : Mem), k < List.length rows) ∧ (∀ (M : Mem), k < List.length rows) ∧ lTk (List.length (gT rows k)) (List.length ins) (cE (gT rows k)) (cI ins) fun (l : List Nat) (ns : List Int) => (∀ (M : Mem), 0 ≤ 0) ∧ bif !mhas kl [(↑(limb (tkN l ns 0) 0) : Int), (↑(limb (tkN l ns 0) 1) : Int), (↑(limb (tkN l ns 0) 2) : Int), (↑(limb (tkN l ns 0) 3) : Int), (↑(limb (tkN l ns 1) 0) : Int), (↑(limb (tkN l ns 1) 1) : Int), (↑(limb (tkN l ns 1) 2) : Int), (↑(limb (tkN l ns 1) 3) : Int), (↑(limb (tkN l ns 2) 0) : Int), (↑(limb (tkN l ns 2) 1) : Int), (↑(limb (tkN l ns 2) 2) : Int), (↑(limb (tkN l ns 2) 3) : Int), (↑(limb (tkN l ns 3) 0) : Int), (↑(limb (tkN l ns 3) 1) : Int), (↑(limb (tkN l ns 3) 2) : Int), (↑(limb (tkN l ns 3) 3) : Int)] then (∀ (M : Mem), (m + 1) * 8 ≤ 140737488355328 ∧ m + 1 ≤ 140737488355328) ∧ K [It.rnd [0, 0, 1, 0, 1, 1, 1, 1] M, It.blk 2, It.at [1, 1, 1, 1, 1]] (St.mk [(29, SV.v (vi64 (IntKind.wrap IntKind.i64 ((↑k : Int) + (1 : Int))))), (28, SV.v (vi64 (↑(List.length rows) : Int))), (27, SV.x 0 []), (8, SV.o 1), (5, SV.m 2), (3, SV.p 3 0)] [HO.ext b0 (Cell.s false 1 (List.length rows) (cT rows)), HO.rowc 3 1 (m + 1) (Ct.app m (Ct.fn (cI os)) (Ct.lit 1 [Cell.v (vi64 (↑k : Int))])), HO.mp true [IntKind.u64, IntKind.u64, IntKind.u64, IntKind.u64, IntKind.u64, IntKind.u64, IntKind.u64, IntKind.u64, IntKind.u64, IntKind.u64, IntKind.u64, IntKind.u64, IntKind.u64, IntKind.u64, IntKind.u64, IntKind.u64] kl Mc.unit, HO.cells [SV.x 4 [], SV.x 5 []] 86, HO.ext b1 (Cell.s false 1 (List.length ins) (cI ins)), HO.ext b2 (Cell.s false 1 (List.length tabs) (cI tabs))]) else K [It.rnd [0, 0, 1, 0, 1, 1, 1, 1] M, It.blk 2, It.at [1, 1, 1, 1, 1]] (St.mk [(29, SV.v (vi64 (IntKind.wrap IntKind.i64 ((↑k : Int) + (1 : Int))))), (28, SV.v (vi64 (↑(List.length rows) : Int))), (27, SV.x 0 []), (8, SV.o 1), (5, SV.m 2), (3, SV.p 3 0)] [HO.ext b0 (Cell.s false 1 (List.length rows) (cT rows)), HO.rowc 3 1 m (Ct.fn (cI os)), HO.mp true [IntKind.u64, IntKind.u64, IntKind.u64, IntKind.u64, IntKind.u64, IntKind.u64, IntKind.u64, IntKind.u64, IntKind.u64, IntKind.u64, IntKind.u64, IntKind.u64, IntKind.u64, IntKind.u64, IntKind.u64, IntKind.u64] kl Mc.unit, HO.cells [SV.x 4 [], SV.x 5 []] 86, HO.ext b1 (Cell.s false 1 (List.length ins) (cI ins)), HO.ext b2 (Cell.s false 1 (List.length tabs) (cI tabs))]) else R (SV.o 0) [HO.rowc 3 1 m (Ct.fn (cI os))]) := by kernel_rfl
theorem slk2_loop (b0 b1 b2 : Bool) (rows : List (List Nat)) (ins tabs : List Int) (hr : rows.length ≤ 4000000000000) (hi : ins.length ≤ 4) (ht : tabs.length ≤ 4) (hg : ∀ r ∈ rows, (∀ g ∈ ins, 0 ≤ g ∧ g < (r.length : Int)) ∧ ∀ g ∈ tabs, 0 ≤ g ∧ g < (r.length : Int)) (Q : SV → List HO → Prop) (hq : Q (.o 0) [.rowc 3 1 (lookV rows ins tabs).length (.fn (cI (lookV rows ins tabs)))]) : ∀ (d k : Nat) (os : List Int), k + d = rows.length → os.length ≤ k → lookV rows ins tabs = os ++ missT (keysT rows tabs) ins (k : Int) (rows.drop k) →
    FOk Try.prog Try.f51 Q (.rnd [0,0,1,0,1,1,1,1] (d + 1) :: [.blk 2, .at [1,1,1,1,1]]) ⟨[(29, .v (.int .i64 (k : Int))), (28, .v (.int .i64 (rows.length : Int))), (27, .x 0 []), (8, .o 1), (5, .m 2), (3, .p 3 0)], [.ext b0 (.s false 1 rows.length (cT rows)), .rowc 3 1 os.length (.fn (cI os)), .mp true [.u64, .u64, .u64, .u64, .u64, .u64, .u64, .u64, .u64, .u64, .u64, .u64, .u64, .u64, .u64, .u64] (keysT rows tabs) .unit, .cells [.x 4 [], .x 5 []] 86, .ext b1 (.s false 1 ins.length (cI ins)), .ext b2 (.s false 1 tabs.length (cI tabs))]⟩
  | 0, k, os, hd, hl, he => by
    refine FOk.rnd (run_sound hm 60 ((slk2 b0 b1 b2 rows ins tabs (keysT rows tabs) os os.length k 0 _ _).mpr ⟨?_⟩))
    rw [cond_dec, if_neg (by omega)]
    rw [show k = rows.length by omega, List.drop_length, missT, List.append_nil] at he
    rw [he] at hq
    exact hq
  | d + 1, k, os, hd, hl, he => by
    have hk : k < rows.length := by omega
    have hgk := hg _ (gT_mem hk)
    refine FOk.rnd (run_sound hm 60 ((slk2 b0 b1 b2 rows ins tabs (keysT rows tabs) os os.length k (d + 1) _ _).mpr ⟨?_⟩))
    rw [cond_dec, if_pos (by omega), wrap_inc _ (by omega)]
    rw [drop_gT hk, missT, show (k : Int) + 1 = ((k + 1 : Nat) : Int) by omega] at he
    refine And.intro (fun _ => by omega) (And.intro (fun _ => by omega) (And.intro (fun _ => by omega) (lTk_mk _ _ hi hgk.1 (And.intro (fun _ => by omega) ?_))))
    show bif !mhas (keysT rows tabs) (tK (gT rows k) ins) then _ else _
    rw [cond_not]
    refine cond_intro (fun h => ?_) (fun h => ?_)
    · rw [h] at he
      exact slk2_loop b0 b1 b2 rows ins tabs hr hi ht hg Q hq d (k + 1) os (by omega) (by omega) he
    · rw [h, cond_false, ← List.append_assoc] at he
      have next := slk2_loop b0 b1 b2 rows ins tabs hr hi ht hg Q hq d (k + 1) (os ++ [(k : Int)]) (by omega) (by simp; omega) he
      rw [List.length_append, List.length_singleton] at next
      exact And.intro (fun _ => by omega) (FOk.cv next ⟨HE.refl _, ⟨rfl, rfl, rfl, cI_snoc _ rfl⟩, HE.refl _, HE.refl _, HE.refl _, HE.refl _, trivial⟩)
theorem slk1_loop (b0 b1 b2 : Bool) (rows : List (List Nat)) (ins tabs : List Int) (hr : rows.length ≤ 4000000000000) (hi : ins.length ≤ 4) (ht : tabs.length ≤ 4) (hg : ∀ r ∈ rows, (∀ g ∈ ins, 0 ≤ g ∧ g < (r.length : Int)) ∧ ∀ g ∈ tabs, 0 ≤ g ∧ g < (r.length : Int)) (Q : SV → List HO → Prop) (hq : Q (.o 0) [.rowc 3 1 (lookV rows ins tabs).length (.fn (cI (lookV rows ins tabs)))]) : ∀ (d k : Nat) (kl : List (List Int)), k + d = rows.length → kl = (rows.take k).foldl (fun ks r => mput ks (tK r tabs)) [] →
    FOk Try.prog Try.f51 Q (.rnd [0,0,1,0,1,1] (d + 1) :: [.blk 0, .at [1,1,1]]) ⟨[(16, .v (.int .i64 (k : Int))), (15, .v (.int .i64 (rows.length : Int))), (14, .x 0 []), (5, .m 1), (3, .p 2 0), (0, .x 0 [])], [.ext b0 (.s false 1 rows.length (cT rows)), .mp true [.u64, .u64, .u64, .u64, .u64, .u64, .u64, .u64, .u64, .u64, .u64, .u64, .u64, .u64, .u64, .u64] kl .unit, .cells [.x 3 [], .x 4 []] 86, .ext b1 (.s false 1 ins.length (cI ins)), .ext b2 (.s false 1 tabs.length (cI tabs))]⟩
  | 0, k, kl, hd, he => by
    refine FOk.rnd (run_sound hm 60 ((slk1 b0 b1 b2 rows ins tabs kl k 0 _ _).mpr ⟨?_⟩))
    rw [cond_dec, if_neg (by omega)]
    rw [show k = rows.length by omega, List.take_length] at he
    subst he
    exact FOk.loop (rows.length + 1) (by kernel_rfl) (FOk.cv (slk2_loop b0 b1 b2 rows ins tabs hr hi ht hg Q hq rows.length 0 [] (by omega) (Nat.le_refl _) rfl) ⟨HE.refl _, ⟨rfl, rfl, rfl, fun k hk => by simp at hk⟩, HE.refl _, HE.refl _, HE.refl _, HE.refl _, trivial⟩)
  | d + 1, k, kl, hd, he => by
    have hk : k < rows.length := by omega
    have hgk := hg _ (gT_mem hk)
    refine FOk.rnd (run_sound hm 60 ((slk1 b0 b1 b2 rows ins tabs kl k (d + 1) _ _).mpr ⟨?_⟩))
    rw [cond_dec, if_pos (by omega), wrap_inc _ (by omega)]
    refine And.intro (fun _ => by omega) (And.intro (fun _ => by omega) (And.intro (fun _ => by omega) (lTk_mk _ _ ht hgk.2 ?_)))
    exact slk1_loop b0 b1 b2 rows ins tabs hr hi ht hg Q hq d (k + 1) (mput kl (tK (gT rows k) tabs)) (by omega) (by rw [take_gT hk, List.foldl_append, ← he]; rfl)
theorem bSlk : Try.f51.body.isSome = true := by kernel_rfl
theorem nSlk : Nat.ble [SV.x 0 [], .agg [.x 1 [], .x 2 []]].length Try.f51.ntmps = true := by kernel_rfl
theorem slk_ok (b0 b1 b2 : Bool) (rows : List (List Nat)) (ins tabs : List Int) (hr : rows.length ≤ 4000000000000) (hi : ins.length ≤ 4) (ht : tabs.length ≤ 4) (hg : ∀ r ∈ rows, (∀ g ∈ ins, 0 ≤ g ∧ g < (r.length : Int)) ∧ ∀ g ∈ tabs, 0 ≤ g ∧ g < (r.length : Int)) (Q : SV → List HO → Prop) (hq : Q (.o 0) [.rowc 3 1 (lookV rows ins tabs).length (.fn (cI (lookV rows ins tabs)))]) : FnOk Try.prog 51 [.x 0 [], .agg [.x 1 [], .x 2 []]] [.ext b0 (.s false 1 rows.length (cT rows)), .ext b1 (.s false 1 ins.length (cI ins)), .ext b2 (.s false 1 tabs.length (cI tabs))] Q := by
  refine fn_of_ok Try.func51 bSlk ?_ ?_
  · exact nSlk
  refine run_sound hm 60 ((slkS b0 b1 b2 rows ins tabs _ _).mpr ⟨?_⟩)
  exact FOk.loop (rows.length + 1) (by kernel_rfl) (slk1_loop b0 b1 b2 rows ins tabs hr hi ht hg Q hq rows.length 0 [] (by omega) rfl)
noncomputable def gSlk : List SV → List HO → Option ((SV → List HO → Prop) → Prop)
  | [.x 0 [], .agg [.x 1 [], .x 2 []]], [.ext _ (.s false 1 nr cr), .ext _ (.s false 1 ni ci), .ext _ (.s false 1 nt ct)] => some fun Q => lLo nr ni nt cr ci ct fun rows ins tabs => Q (.o 0) [.rowc 3 1 (lookV rows ins tabs).length (.fn (cI (lookV rows ins tabs)))]
  | _, _ => none
theorem gSlk_ok (args : List SV) (h : List HO) (tr : (SV → List HO → Prop) → Prop) (Q : SV → List HO → Prop) (hc : gSlk args h = some tr) (ht : tr Q) : FnOk Try.prog 51 args h Q := by
  unfold gSlk at hc
  split at hc
  · simp only [Option.some.injEq] at hc
    subst hc
    obtain ⟨rows, ins, tabs, ⟨rfl, e0⟩, ⟨rfl, e1⟩, ⟨rfl, e2⟩, hr, hi, h4, hg, hq⟩ := ht.h
    exact FnOk.ac (slk_ok _ _ _ rows ins tabs hr hi h4 hg Q hq) ⟨⟨rfl, rfl, rfl, rfl, e0⟩, ⟨rfl, rfl, rfl, rfl, e1⟩, ⟨rfl, rfl, rfl, rfl, e2⟩, trivial⟩
  · cases hc
noncomputable def K78 : Con Try.prog := K77.add 51 gSlk gSlk_ok
end Go.Proofs.Ytlmjdcbhpffanaa
/- A cell that may be copied: its value. -/
namespace Go.Pl
open Go.Sx
noncomputable def cellV (c : Cir) (s : Sht) (so x y : Int) : Nat := fAd so (atS s (gK c.eqs x.toNat).1 (gK c.eqs x.toNat).2 y) 0
end Go.Pl
namespace Go.Proofs.Ytlmjdcbhpffanaa
open Go.Sx Go.Pl
set_option linter.unusedVariables false
set_option maxRecDepth 100000
theorem celS (c : Cir) (s : Sht) (so k : Int) (qs : List (Int × Int × Int)) (x y : Int) (K : List It → St → Prop) (R : SV → List HO → Prop) : W (xwp Try.prog X K78 [] 60 (fxOf Try.f52 [] []) [] [.at []] ⟨argsS 0 [.x 0 [], .agg [.v (.int .i64 x), .v (.int .i64 y)]], [.ext true (.s true 14 1 (fun _ j => flCell c s so k qs j))]⟩ K R) = W ((∀ (M : Mem), 0 < 1) ∧ (∀ (M : Mem), 0 < 1) ∧ (∀ (M : Mem), 0 < 1) ∧ (∀ (M : Mem), 0 < 1) ∧ (∀ (M : Mem), 0 < 1) ∧ (∀ (M : Mem), (0 : Int) ≤ x ∧ x < (↑(List.length c.7) : Int)) ∧ (∀ (M : Mem), 0 < 1) ∧ (∀ (M : Mem), Int.toNat x < List.length c.7) ∧ (∀ (M : Mem), 0 + 2 ≤ 2) ∧ (∀ (M : Mem), 0 < 1) ∧ (∀ (M : Mem), 0 < 1) ∧ (∀ (M : Mem), 0 < 1) ∧ (∀ (M : Mem), 0 < 1) ∧ (∀ (M : Mem), 0 < 1) ∧ (∀ (M : Mem), 0 < 1) ∧ (∀ (M : Mem), 0 < 1) ∧ (∀ (M : Mem), 0 < 1) ∧ (∀ (M : Mem), 0 < 1) ∧ (∀ (M : Mem), 0 < 1) ∧ lS (List.length s.1) (List.length s.2) (List.length s.3) (List.length s.4) (cT s.1) (cT s.2) (cT s.3) (cP s.4) fun (s : Sht) => c2C (eI (atS s (gK c.7 (Int.toNat x)).1 (gK c.7 (Int.toNat x)).2 y)) [(0 : Int), (0 : Int), (0 : Int), (0 : Int)] fun (a b : Nat) => (∀ (M : Mem), 0 + 4 ≤ 4) ∧ R ((eS (fAd so a b))) []) := by kernel_rfl
theorem bCel : Try.f52.body.isSome = true := by kernel_rfl
theorem nCel (x y : Int) : Nat.ble [SV.x 0 [], .agg [.v (.int .i64 x), .v (.int .i64 y)]].length Try.f52.ntmps = true := by kernel_rfl
theorem cel_ok (c : Cir) (hc : c.ok) (s : Sht) (hs : s.ok) (so k : Int) (qs : List (Int × Int × Int)) (x y : Int) (hx : 0 ≤ x ∧ x < (c.eqs.length : Int)) (Q : SV → List HO → Prop) (hq : Q (eS (cellV c s so x y)) []) : FnOk Try.prog 52 [.x 0 [], .agg [.v (.int .i64 x), .v (.int .i64 y)]] [.ext true (.s true 14 1 (fun _ j => flCell c s so k qs j))] Q := by
  refine fn_of_ok Try.func52 bCel ?_ ?_
  · exact nCel x y
  refine run_sound hm 60 ((celS c s so k qs x y _ _).mpr ⟨?_⟩)
  refine And.intro (fun _ => by omega) (And.intro (fun _ => by omega) (And.intro (fun _ => by omega) (And.intro (fun _ => by omega) (And.intro (fun _ => by omega) (And.intro (fun _ => by omega) (And.intro (fun _ => by omega) (And.intro (fun _ => by omega) (And.intro (fun _ => by omega) (And.intro (fun _ => by omega) (And.intro (fun _ => by omega) (And.intro (fun _ => by omega) (And.intro (fun _ => by omega) (And.intro (fun _ => by omega) (And.intro (fun _ => by omega) (And.intro (fun _ => by omega) (And.intro (fun _ => by omega) (And.intro (fun _ => by omega) (And.intro (fun _ => by omega) (lS_mk s hs ⟨⟨_, 0, rfl, eI_zero.symm, atS_top hs _ _ _, by simp only [top]; omega, And.intro (fun _ => by omega) hq⟩⟩)))))))))))))))))))
noncomputable def gCel : List SV → List HO → Option ((SV → List HO → Prop) → Prop)
  | [.x 0 [], .agg [.v (.int .i64 x), .v (.int .i64 y)]], [.ext true (.s true 14 1 fk)] => some fun Q => lFk fk fun c s so k qs => (0 ≤ x ∧ x < (c.eqs.length : Int)) ∧ Q (eS (cellV c s so x y)) []
  | _, _ => none
theorem gCel_ok (args : List SV) (h : List HO) (tr : (SV → List HO → Prop) → Prop) (Q : SV → List HO → Prop) (hc : gCel args h = some tr) (ht : tr Q) : FnOk Try.prog 52 args h Q := by
  unfold gCel at hc
  split at hc
  · simp only [Option.some.injEq] at hc
    subst hc
    obtain ⟨c, s, so, k, qs, e, hk, hs, h0, h4, hx, hq⟩ := ht.h
    exact FnOk.ac (cel_ok c hk s hs so k qs _ _ hx Q hq) ⟨⟨rfl, rfl, rfl, rfl, e⟩, trivial⟩
  · cases hc
noncomputable def K79 : Con Try.prog := K78.add 52 gCel gCel_ok
end Go.Proofs.Ytlmjdcbhpffanaa
/- Right circuits: what follows (plain). -/
namespace Go.Pl
open Go.Sx
def addQ (out : List (Int × Int × Int)) (x : Int × Int) : List (Int × Int × Int) := if (x.1, x.2, 0) ∈ out then out else out ++ [(x.1, x.2, 0)]
def ndK (x : Int × Int) : Nd := ⟨x.1, x.2, 0, 0⟩
/-- All queries of a circuit. -/
def queV (c : Cir) : List (Int × Int × Int) := if chkC c = 0 then c.eqs.foldl addQ (qsN [] c.nodes) else []
theorem qsN_app : ∀ (a b : List Nd) (out : List (Int × Int × Int)), qsN out (a ++ b) = qsN (qsN out a) b
  | [], _, _ => rfl
  | x :: r, b, out => by
    rw [List.cons_append, qsN_step, qsN_step]
    split <;> exact qsN_app r b _
theorem eqF_ok {c : Cir} : ∀ (l seen : List (Int × Int)), eqF c seen l = true → ∀ x ∈ l, okK c x = true
  | [], _, _, x, hx => by cases hx
  | y :: r, seen, h, x, hx => by
    rw [eqF, Bool.and_eq_true, Bool.and_eq_true] at h
    rcases List.mem_cons.1 hx with rfl | hx
    · exact h.1.1
    · exact eqF_ok r _ h.2 x hx
theorem okK_kind {c : Cir} {x : Int × Int} (h : okK c x = true) : 2 ≤ x.1 ∧ x.1 ≤ 4 := (of_decide_eq_true h).1
theorem qsN_kinds : ∀ (l : List (Int × Int)) (out : List (Int × Int × Int)), (∀ x ∈ l, 2 ≤ x.1 ∧ x.1 ≤ 4) → qsN out (l.map ndK) = l.foldl addQ out
  | [], _, _ => rfl
  | x :: r, out, h => by
    rw [List.map_cons, List.foldl_cons, addQ]
    by_cases hm : (x.1, x.2, (0 : Int)) ∈ out
    · rw [if_pos hm, qsN_old out _ hm]
      exact qsN_kinds r out fun y hy => h y (List.mem_cons_of_mem _ hy)
    · rw [if_neg hm, qsN_new out _ (h x List.mem_cons_self) hm]
      exact qsN_kinds r _ fun y hy => h y (List.mem_cons_of_mem _ hy)
theorem queV_eq {c : Cir} (h : chkC c = 0) : qsN [] (c.nodes ++ c.eqs.map ndK) = queV c := by
  obtain ⟨_, hg⟩ := chkC_zero h
  have h2 := (goodB_all hg).2.2.2.1
  rw [queV, if_pos h, qsN_app, qsN_kinds _ _ fun x hx => okK_kind (eqF_ok _ _ h2 x hx)]
theorem chkC_len {c : Cir} (h : chkC c = 0) : c.nodes.length ≤ 64 ∧ c.gates.length ≤ 16 ∧ c.looks.length ≤ 4 ∧ c.eqs.length ≤ 8 := by
  obtain ⟨h0, hg⟩ := chkC_zero h
  have h1 : cntOk c := of_decide_eq_true (goodB_all hg).1
  refine ⟨?_, h1.2.2.2.2⟩
  rw [chkN] at h0
  split at h0
  · cases h0
  · rename_i hn
    exact Nat.le_of_not_lt fun hh => hn (.inl hh)
theorem addQ_len (out : List (Int × Int × Int)) (x : Int × Int) : (addQ out x).length ≤ out.length + 1 := by
  rw [addQ]
  split
  · omega
  · rw [List.length_append, List.length_singleton]; omega
theorem foldQ_len : ∀ (l : List (Int × Int)) (out : List (Int × Int × Int)), (l.foldl addQ out).length ≤ out.length + l.length
  | [], _ => Nat.le_refl _
  | x :: r, out => by
    have h1 := foldQ_len r (addQ out x)
    have h2 := addQ_len out x
    rw [List.foldl_cons, List.length_cons]; omega
theorem queV_len (c : Cir) : (queV c).length ≤ 72 := by
  by_cases h : chkC c = 0
  · obtain ⟨h1, _, _, h2⟩ := chkC_len h
    have h3 := foldQ_len c.eqs (qsN [] c.nodes)
    have h4 := qsN_len c.nodes []
    rw [List.length_nil] at h4
    rw [queV, if_pos h]; omega
  · rw [queV, if_neg h]; exact Nat.zero_le _
end Go.Pl
namespace Go.Pl
open Go.Sx
theorem gtF_le {dg : List Int} {B : Int} : ∀ (l : List Int) (m : Int), l.foldl (fun m g => if m < gI dg g.toNat then gI dg g.toNat else m) m ≤ B ↔ m ≤ B ∧ ∀ g ∈ l, gI dg g.toNat ≤ B
  | [], m => by simp
  | x :: r, m => by
    rw [List.foldl_cons, gtF_le r, List.forall_mem_cons]
    constructor
    · rintro ⟨h1, h2⟩
      split at h1
      · exact ⟨by omega, h1, h2⟩
      · exact ⟨h1, by omega, h2⟩
    · rintro ⟨h1, h2, h3⟩
      refine ⟨?_, h3⟩
      split
      · exact h2
      · exact h1
theorem gtN_le {dg l : List Int} {B : Int} : gtN dg l ≤ B ↔ 0 ≤ B ∧ ∀ g ∈ l, gI dg g.toNat ≤ B := gtF_le l 0
theorem mxI_le {a b B : Int} : mxI a b ≤ B ↔ a ≤ B ∧ b ≤ B := by
  rw [mxI]; split <;> omega
theorem dgF_le {dg : List Int} {B : Int} : ∀ (l : List (List Int × List Int)) (m : Int), l.foldl (fun d l => mxI d (2 + gtN dg l.1 + gtN dg l.2)) m ≤ B ↔ m ≤ B ∧ ∀ x ∈ l, 2 + gtN dg x.1 + gtN dg x.2 ≤ B
  | [], m => by simp
  | x :: r, m => by
    rw [List.foldl_cons, dgF_le r, List.forall_mem_cons, mxI_le, and_assoc]
theorem degP_le {c : Cir} {dg : List Int} {B : Int} : degP c dg ≤ B ↔ (baseN c ≤ B ∧ gtN dg c.gates + 1 ≤ B) ∧ ∀ x ∈ c.looks, 2 + gtN dg x.1 + gtN dg x.2 ≤ B := by
  rw [degP, dgF_le, mxI_le]
end Go.Pl
namespace Go.Pl
open Go.Sx
/-- A circuit with a gate, a lookup and a copied column less. -/
def lessC (c : Cir) : Cir := ⟨c.fx, c.ad, c.ins, c.nodes, c.gates.tail, c.looks.tail, c.eqs.tail⟩
theorem lC_of (d : Cir) (hd : d.ok) {fx ad ins : Int} {n0 n1 n2 n3 : Nat} {c0 c1 c2 c3 : Nat → Nat → Cell} {k : Cir → Prop} (a1 : fx = d.fx) (a2 : ad = d.ad) (a3 : ins = d.ins) (h0 : n0 = d.nodes.length ∧ IsC n0 7 c0 (cN d.nodes)) (h1 : n1 = d.gates.length ∧ IsC n1 1 c1 (cI d.gates)) (h2 : n2 = d.looks.length ∧ IsC n2 2 c2 (cL d.looks)) (h3 : n3 = d.eqs.length ∧ IsC n3 2 c3 (cK d.eqs)) (h : k d) : lC fx ad ins n0 n1 n2 n3 c0 c1 c2 c3 k :=
  ⟨⟨d, a1, a2, a3, h0, h1, h2, h3, hd, h⟩⟩
theorem getD_tail {α : Type} (l : List α) (k : Nat) (z : α) : l.tail.getD k z = l.getD (k + 1) z := by
  cases l <;> simp [List.getD_eq_getElem?_getD]
theorem tlI (l : List Int) : l.length - 1 = l.tail.length ∧ IsC (l.length - 1) 1 (fun k j => cI l (k + 1) j) (cI l.tail) := by
  refine ⟨by rw [List.length_tail], fun k _ j _ => ?_⟩
  show _ = Cell.v (.int .i64 (gI l.tail k))
  rw [gI, getD_tail]; rfl
theorem tlL (l : List (List Int × List Int)) : l.length - 1 = l.tail.length ∧ IsC (l.length - 1) 2 (fun k j => cL l (k + 1) j) (cL l.tail) := by
  refine ⟨by rw [List.length_tail], fun k _ j _ => ?_⟩
  have e : gL l.tail k = gL l (k + 1) := by rw [gL, getD_tail]; rfl
  simp only [cL]
  exact congrArg (fun y => lCell y j) e.symm
theorem tlK (l : List (Int × Int)) : l.length - 1 = l.tail.length ∧ IsC (l.length - 1) 2 (fun k j => cK l (k + 1) j) (cK l.tail) := by
  refine ⟨by rw [List.length_tail], fun k _ j _ => ?_⟩
  have e : gK l.tail k = gK l (k + 1) := by rw [gK, getD_tail]; rfl
  simp only [cK]
  exact congrArg (fun y => kCell y j) e.symm
theorem noT {α : Type} {l : List α} (h : ¬ 0 < l.length) : l = l.tail := by
  cases l with
  | nil => rfl
  | cons x r => exact absurd (Nat.zero_lt_succ _) h
theorem noI {l : List Int} (h : ¬ 0 < l.length) : l.length = l.tail.length ∧ IsC l.length 1 (cI l) (cI l.tail) := by
  rw [← noT h]; exact ⟨rfl, IsC.refl _ _ _⟩
theorem noL {l : List (List Int × List Int)} (h : ¬ 0 < l.length) : l.length = l.tail.length ∧ IsC l.length 2 (cL l) (cL l.tail) := by
  rw [← noT h]; exact ⟨rfl, IsC.refl _ _ _⟩
theorem noK {l : List (Int × Int)} (h : ¬ 0 < l.length) : l.length = l.tail.length ∧ IsC l.length 2 (cK l) (cK l.tail) := by
  rw [← noT h]; exact ⟨rfl, IsC.refl _ _ _⟩
theorem mem_tl {α : Type} {l : List α} {x : α} (h : x ∈ l.tail) : x ∈ l := List.mem_of_mem_tail h
theorem lessC_ok {c : Cir} (h : c.ok) : (lessC c).ok where
  f := h.f
  a := h.a
  i := h.i
  n := h.n
  g := by
    refine ⟨fun x hx => h.g.1 x (mem_tl hx), ?_⟩
    have := h.g.2
    simp only [lessC, List.length_tail]; omega
  l := by
    refine ⟨fun x hx => h.l.1 x (mem_tl hx), ?_⟩
    have := h.l.2
    simp only [lessC, List.length_tail]; omega
  e := by
    refine ⟨fun x hx => h.e.1 x (mem_tl hx), ?_⟩
    have := h.e.2
    simp only [lessC, List.length_tail]; omega
theorem eqF_sub {c : Cir} : ∀ (l s s' : List (Int × Int)), (∀ x ∈ s', x ∈ s) → eqF c s l = true → eqF (lessC c) s' l = true
  | [], _, _, _, _ => rfl
  | y :: r, s, s', hs, h => by
    rw [eqF, Bool.and_eq_true, Bool.and_eq_true] at h ⊢
    obtain ⟨⟨h1, h2⟩, h3⟩ := h
    refine ⟨⟨h1, ?_⟩, eqF_sub r _ _ (fun x hx => ?_) h3⟩
    · rw [Bool.not_eq_true', decide_eq_false_iff_not] at h2 ⊢
      exact fun hh => h2 (hs y hh)
    · rcases List.mem_append.1 hx with hx | hx
      · exact List.mem_append_left _ (hs x hx)
      · exact List.mem_append_right _ hx
theorem eqF_less {c : Cir} (h : eqF c [] c.eqs = true) : eqF (lessC c) [] c.eqs.tail = true := by
  cases e : c.eqs with
  | nil => rfl
  | cons y r =>
    rw [e, eqF, Bool.and_eq_true] at h
    exact eqF_sub r _ _ (fun x hx => by cases hx) h.2
theorem any_tl {α : Type} {p : α → Bool} {l : List α} (h : l.any p = false) : l.tail.any p = false := by
  cases l with
  | nil => rfl
  | cons x r => rw [List.any_cons, Bool.or_eq_false_iff] at h; exact h.2
theorem degP_less (c : Cir) (dg : List Int) : degP (lessC c) dg ≤ degP c dg := by
  obtain ⟨⟨h1, h2⟩, h3⟩ := degP_le.1 (Int.le_refl (degP c dg))
  refine degP_le.2 ⟨⟨?_, ?_⟩, fun x hx => h3 x (mem_tl hx)⟩
  · refine Int.le_trans ?_ h1
    simp only [baseN, lessC, List.length_tail]
    split <;> split <;> omega
  · have a := gtN_le.1 (Int.le_refl (gtN dg c.gates))
    have b : gtN dg c.gates.tail ≤ gtN dg c.gates := gtN_le.2 ⟨a.1, fun g hg => a.2 g (mem_tl hg)⟩
    show gtN dg c.gates.tail + 1 ≤ _
    omega
theorem chkC_less {c : Cir} (h : chkC c = 0) : chkC (lessC c) = 0 := by
  obtain ⟨h0, hg⟩ := chkC_zero h
  obtain ⟨g1, g2, g3, g4, g5⟩ := goodB_all hg
  have g6 : cntOk c := of_decide_eq_true g1
  have e1 : cntB (lessC c) = true := decide_eq_true ⟨g6.1, g6.2.1, g6.2.2.1, g6.2.2.2.1, by
    obtain ⟨a, b, d⟩ := g6.2.2.2.2
    simp only [lessC, List.length_tail]
    exact ⟨by omega, by omega, by omega⟩⟩
  have e2 : (lessC c).gates.any (fun n => !placeB (lessC c) n) = false := any_tl g2
  have e3 : (lessC c).looks.any (fun x => !lookB (lessC c) x) = false := any_tl g3
  have e4 : eqF (lessC c) [] (lessC c).eqs = true := eqF_less g4
  have e5 : degP (lessC c) (degrees (lessC c).nodes) ≤ 8 := Int.le_trans (degP_less c _) g5
  have e : goodB (lessC c) = true := by
    rw [goodB, e1, e2, e3, e4, decide_eq_true e5]; rfl
  rw [chkC, if_pos (show chkN (lessC c).nodes (lessC c).fx (lessC c).ad (lessC c).ins = 0 from h0), e]; rfl
theorem degV_less {c : Cir} (h : chkC c = 0) : degV (lessC c) ≤ degV c := by
  rw [degV, degV, if_pos h, if_pos (chkC_less h)]
  exact degP_less c _
theorem addQ_old {out : List (Int × Int × Int)} {x : Int × Int} (h : (x.1, x.2, (0 : Int)) ∈ out) : addQ out x = out := if_pos h
theorem addQ_new {out : List (Int × Int × Int)} {x : Int × Int} (h : (x.1, x.2, (0 : Int)) ∉ out) : addQ out x = out ++ [(x.1, x.2, 0)] := if_neg h
theorem fold0 : ∀ (r : List (Int × Int)) (o o' : List (Int × Int × Int)), (∀ q, q ∈ o' ↔ q ∈ o) → o.length = o'.length → (r.foldl addQ o).length = (r.foldl addQ o').length
  | [], _, _, _, h => h
  | z :: r, o, o', hm, h => by
    rw [List.foldl_cons, List.foldl_cons]
    by_cases hz : (z.1, z.2, (0 : Int)) ∈ o
    · rw [addQ_old hz, addQ_old ((hm _).2 hz)]
      exact fold0 r o o' hm h
    · rw [addQ_new hz, addQ_new (fun hh => hz ((hm _).1 hh))]
      refine fold0 r _ _ (fun q => ?_) (by simp [h])
      rw [List.mem_append, List.mem_append, hm]
theorem fold1 (y : Int × Int × Int) : ∀ (r : List (Int × Int)) (o o' : List (Int × Int × Int)), (∀ q, q ∈ o' ↔ q ∈ o ∨ q = y) → y ∉ o → o.length + 1 = o'.length → (r.foldl addQ o).length ≤ (r.foldl addQ o').length
  | [], o, o', _, _, h => by
    rw [List.foldl_nil, List.foldl_nil]; omega
  | z :: r, o, o', hm, hy, h => by
    rw [List.foldl_cons, List.foldl_cons]
    by_cases hz : (z.1, z.2, (0 : Int)) ∈ o
    · rw [addQ_old hz, addQ_old ((hm _).2 (.inl hz))]
      exact fold1 y r o o' hm hy h
    · rw [addQ_new hz]
      by_cases e : (z.1, z.2, (0 : Int)) = y
      · rw [addQ_old ((hm _).2 (.inr e))]
        refine Nat.le_of_eq (fold0 r _ _ (fun q => ?_) (by rw [List.length_append, List.length_singleton]; omega))
        rw [List.mem_append, hm, List.mem_singleton, e]
      · rw [addQ_new (fun hh => ((hm _).1 hh).elim hz e)]
        refine fold1 y r _ _ (fun q => ?_) (fun hh => ?_) (by simp only [List.length_append, List.length_singleton]; omega)
        · rw [List.mem_append, List.mem_append, hm]
          constructor
          · rintro ((h1 | h1) | h1)
            · exact .inl (.inl h1)
            · exact .inr h1
            · exact .inl (.inr h1)
          · rintro ((h1 | h1) | h1)
            · exact .inl (.inl h1)
            · exact .inr h1
            · exact .inl (.inr h1)
        · rcases List.mem_append.1 hh with hh | hh
          · exact hy hh
          · exact e (List.mem_singleton.1 hh).symm
theorem fold_tl (l : List (Int × Int)) (o : List (Int × Int × Int)) : (l.tail.foldl addQ o).length ≤ (l.foldl addQ o).length := by
  cases l with
  | nil => exact Nat.le_refl _
  | cons x r =>
    rw [List.foldl_cons, List.tail_cons]
    by_cases h : (x.1, x.2, (0 : Int)) ∈ o
    · rw [addQ_old h]; exact Nat.le_refl _
    · rw [addQ_new h]
      exact fold1 (x.1, x.2, 0) r _ _ (fun q => by rw [List.mem_append, List.mem_singleton]) h (by rw [List.length_append, List.length_singleton])
theorem queV_less {c : Cir} (h : chkC c = 0) : (queV (lessC c)).length ≤ (queV c).length := by
  rw [queV, queV, if_pos h, if_pos (chkC_less h)]
  exact fold_tl c.eqs _
end Go.Pl
namespace Go.Pl
open Go.Sx
theorem qsN_mem : ∀ (l : List Nd) (out : List (Int × Int × Int)) (q : Int × Int × Int), q ∈ qsN out l ↔ q ∈ out ∨ ∃ n ∈ l, (2 ≤ n.op ∧ n.op ≤ 4) ∧ q = (n.op, n.a, n.b)
  | [], out, q => by
    rw [qsN]
    exact ⟨.inl, fun h => h.elim id (fun ⟨n, hn, _⟩ => by cases hn)⟩
  | x :: r, out, q => by
    by_cases h1 : 2 ≤ x.op ∧ x.op ≤ 4
    · by_cases h2 : (x.op, x.a, x.b) ∈ out
      · rw [qsN_old out r h2, qsN_mem r]
        constructor
        · rintro (h | ⟨n, hn, h⟩)
          · exact .inl h
          · exact .inr ⟨n, List.mem_cons_of_mem _ hn, h⟩
        · rintro (h | ⟨n, hn, h, e⟩)
          · exact .inl h
          · rcases List.mem_cons.1 hn with rfl | hn
            · exact .inl (e ▸ h2)
            · exact .inr ⟨n, hn, h, e⟩
      · rw [qsN_new out r h1 h2, qsN_mem r]
        constructor
        · rintro (h | ⟨n, hn, h⟩)
          · rcases List.mem_append.1 h with h | h
            · exact .inl h
            · exact .inr ⟨x, List.mem_cons_self, h1, List.mem_singleton.1 h⟩
          · exact .inr ⟨n, List.mem_cons_of_mem _ hn, h⟩
        · rintro (h | ⟨n, hn, h, e⟩)
          · exact .inl (List.mem_append_left _ h)
          · rcases List.mem_cons.1 hn with rfl | hn
            · exact .inl (List.mem_append_right _ (List.mem_singleton.2 e))
            · exact .inr ⟨n, hn, h, e⟩
    · rw [qsN_no out r h1, qsN_mem r]
      constructor
      · rintro (h | ⟨n, hn, h⟩)
        · exact .inl h
        · exact .inr ⟨n, List.mem_cons_of_mem _ hn, h⟩
      · rintro (h | ⟨n, hn, h, e⟩)
        · exact .inl h
        · rcases List.mem_cons.1 hn with rfl | hn
          · exact absurd h h1
          · exact .inr ⟨n, hn, h, e⟩
/-- Is a query's row not usable? -/
def offB (u r : Int) (n : Nd) : Bool := decide ((2 ≤ n.op ∧ n.op ≤ 4) ∧ (r + n.b < 0 ∨ u ≤ r + n.b))
theorem rot_bnd {c : Cir} (h : chkC c = 0) {n : Nd} (hn : n ∈ c.nodes) (h1 : 2 ≤ n.op) (h2 : n.op ≤ 4) : -3 ≤ n.b ∧ n.b ≤ 3 := by
  obtain ⟨h0, _⟩ := chkC_zero h
  rw [chkN] at h0
  split at h0
  · cases h0
  · rename_i hno
    refine Classical.byContradiction fun hb => hno (.inr (.inr (List.any_eq_true.2 ⟨n, hn, ?_⟩)))
    rw [badN, qryN, decide_eq_true ⟨h1, h2⟩, Bool.true_and]
    exact decide_eq_true (by omega)
theorem frF_le {B : Int} : ∀ (l : List (Int × Int × Int)) (m : Int), (∀ q ∈ l, -3 ≤ q.2.2 ∧ q.2.2 ≤ 3) → (l.foldl frQ m ≤ B ↔ m ≤ B ∧ ∀ q ∈ l, -q.2.2 ≤ B)
  | [], m, _ => by simp
  | x :: r, m, h => by
    have hx := h x List.mem_cons_self
    rw [List.foldl_cons, frF_le r _ fun q hq => h q (List.mem_cons_of_mem _ hq), List.forall_mem_cons, frQ, wrap_in _ (by omega)]
    constructor
    · rintro ⟨h1, h2⟩
      split at h1
      · exact ⟨by omega, by omega, h2⟩
      · exact ⟨h1, by omega, h2⟩
    · rintro ⟨h1, h2, h3⟩
      refine ⟨?_, h3⟩
      split
      · omega
      · exact h1
theorem toF_lt {B k : Int} (hk : 0 ≤ usN k ∧ usN k ≤ 2000) : ∀ (l : List (Int × Int × Int)) (m : Int), (∀ q ∈ l, -3 ≤ q.2.2 ∧ q.2.2 ≤ 3) → (B < l.foldl (toQ k) m ↔ B < m ∧ ∀ q ∈ l, B < usN k - q.2.2)
  | [], m, _ => by simp
  | x :: r, m, h => by
    have hx := h x List.mem_cons_self
    rw [List.foldl_cons, toF_lt hk r _ fun q hq => h q (List.mem_cons_of_mem _ hq), List.forall_mem_cons, toQ, wrap_in _ (by omega)]
    constructor
    · rintro ⟨h1, h2⟩
      split at h1
      · exact ⟨by omega, h1, h2⟩
      · exact ⟨h1, by omega, h2⟩
    · rintro ⟨h1, h2, h3⟩
      refine ⟨?_, h3⟩
      split
      · exact h2
      · exact h1
theorem coneQ_all {c : Cir} {x : Int} {p : Int → Prop} : (∀ q ∈ coneQ c x, p q.2.2) ↔ ∀ g ∈ coneN c.nodes x, (2 ≤ (gN c.nodes g.toNat).op ∧ (gN c.nodes g.toNat).op ≤ 4) → p (gN c.nodes g.toNat).b := by
  constructor
  · intro h g hg ho
    refine h ((gN c.nodes g.toNat).op, (gN c.nodes g.toNat).a, (gN c.nodes g.toNat).b) ((qsN_mem _ _ _).2 (.inr ⟨_, ?_, ho, rfl⟩))
    exact List.mem_map.2 ⟨g, hg, rfl⟩
  · intro h q hq
    rcases (qsN_mem _ _ _).1 hq with hq | ⟨n, hn, ho, rfl⟩
    · cases hq
    · obtain ⟨g, hg, rfl⟩ := List.mem_map.1 hn
      exact h g hg ho
theorem cone_gN {c : Cir} {x g : Int} (h : g ∈ coneN c.nodes x) : gN c.nodes g.toNat ∈ c.nodes := by
  have := coneN_in c.nodes x g h
  rw [gN, List.getD_eq_getElem?_getD, List.getElem?_eq_getElem (by omega)]
  exact List.getElem_mem (by omega)
theorem coneQ_rot {c : Cir} (h : chkC c = 0) (x : Int) : ∀ q ∈ coneQ c x, -3 ≤ q.2.2 ∧ q.2.2 ≤ 3 :=
  (coneQ_all (p := fun z => -3 ≤ z ∧ z ≤ 3)).2 fun _ hg ho => rot_bnd h (cone_gN hg) ho.1 ho.2
theorem usN_bnd {k : Int} (h : k ≤ 10) : 0 ≤ usN k ∧ usN k ≤ 1020 := by
  rw [usN]
  split
  · omega
  · rename_i h2
    have : k = 2 ∨ k = 3 ∨ k = 4 ∨ k = 5 ∨ k = 6 ∨ k = 7 ∨ k = 8 ∨ k = 9 ∨ k = 10 := by omega
    rcases this with rfl | rfl | rfl | rfl | rfl | rfl | rfl | rfl | rfl <;> decide
theorem rows_bnd {c : Cir} (h : chkC c = 0) {k x : Int} (hk : k ≤ 10) : 0 ≤ (rowsV c k x).1 ∧ (rowsV c k x).2 ≤ usN k := by
  have hu := usN_bnd hk
  have hr := coneQ_rot h x
  rw [rowsV]
  split
  · rw [rowsQ]
    split
    · exact ⟨Int.le_refl 0, hu.1⟩
    · refine ⟨((frF_le _ 0 hr).1 (Int.le_refl _)).1, ?_⟩
      refine Int.not_lt.1 fun hh => ?_
      have := ((toF_lt ⟨hu.1, by omega⟩ _ _ hr).1 hh).1
      omega
  · exact ⟨Int.le_refl 0, hu.1⟩
theorem rows_fit {c : Cir} (h : chkC c = 0) {k x : Int} (hk : k ≤ 10) (hx : 0 ≤ x ∧ x < (c.nodes.length : Int)) {r : Int} (h0 : 0 ≤ r) (hr : r < usN k) :
    (!(coneN c.nodes x).any (fun g => offB (usN k) r (gN c.nodes g.toNat))) = decide ((rowsV c k x).1 ≤ r ∧ r < (rowsV c k x).2) := by
  have hu := usN_bnd hk
  have hrot := coneQ_rot h x
  have e1 : (coneQ c x).foldl frQ 0 ≤ r ↔ ∀ q ∈ coneQ c x, -q.2.2 ≤ r := by
    rw [frF_le _ _ hrot]; exact ⟨And.right, fun hh => ⟨h0, hh⟩⟩
  have e2 : r < (coneQ c x).foldl (toQ k) (usN k) ↔ ∀ q ∈ coneQ c x, r < usN k - q.2.2 := by
    rw [toF_lt ⟨hu.1, by omega⟩ _ _ hrot]; exact ⟨And.right, fun hh => ⟨hr, hh⟩⟩
  have e3 : ((rowsV c k x).1 ≤ r ∧ r < (rowsV c k x).2) ↔ ((coneQ c x).foldl frQ 0 ≤ r ∧ r < (coneQ c x).foldl (toQ k) (usN k)) := by
    rw [rowsV, if_pos ⟨h, hx⟩, rowsQ]
    split
    · constructor
      · rintro ⟨a, b⟩; exact absurd b (Int.not_lt.2 a)
      · rintro ⟨a, b⟩; omega
    · exact Iff.rfl
  rw [e1, e2, coneQ_all (p := fun z => -z ≤ r), coneQ_all (p := fun z => r < usN k - z)] at e3
  rw [Bool.eq_iff_iff, decide_eq_true_eq, e3, Bool.not_eq_true', List.any_eq_false]
  constructor
  · intro hh
    refine ⟨fun g hg ho => ?_, fun g hg ho => ?_⟩
    all_goals
      have := hh g hg
      rw [offB, decide_eq_true_eq] at this
      have h1 : ¬ (r + (gN c.nodes g.toNat).b < 0 ∨ usN k ≤ r + (gN c.nodes g.toNat).b) := fun a => this ⟨ho, a⟩
      omega
  · rintro ⟨h1, h2⟩ g hg
    rw [offB, decide_eq_true_eq]
    rintro ⟨ho, a⟩
    have b1 := h1 g hg ho
    have b2 := h2 g hg ho
    omega
theorem cone_none {c : Cir} (h : chkC c = 0) {x : Int} (hn : coneN c.nodes x = []) : ¬ (0 ≤ x ∧ x < (c.nodes.length : Int)) := by
  rintro ⟨h0, h1⟩
  obtain ⟨hz, _⟩ := chkC_zero h
  obtain ⟨pre, hp⟩ := cone_last (chkN_ord hz).2 h0 h1
  rw [hn] at hp
  cases pre <;> cases hp
end Go.Pl
/- All faults: plain. -/
namespace Go.Pl
open Go.Sx
noncomputable def gateR (rows : List (List Nat)) (g i : Int) : Nat → Int → List (Int × Int × Int)
  | 0, _ => []
  | d + 1, r => (bif decide (eI (gE (gT rows r.toNat) g.toNat) = [(0 : Int), (0 : Int), (0 : Int), (0 : Int)]) then [] else [((1 : Int), i, r)]) ++ gateR rows g i d (r + 1)
noncomputable def gatesF (c : Cir) (k : Int) (rows : List (List Nat)) : Int → List Int → List (Int × Int × Int)
  | i, g :: t => gateR rows g i ((rowsV c k g).2 - (rowsV c k g).1).toNat (rowsV c k g).1 ++ gatesF c k rows (i + 1) t
  | _, [] => []
noncomputable def looksF (rows : List (List Nat)) : Int → List (List Int × List Int) → List (Int × Int × Int)
  | i, l :: t => (lookV rows l.1 l.2).map (fun r => ((2 : Int), i, r)) ++ looksF rows (i + 1) t
  | _, [] => []
noncomputable def copF (c : Cir) (s : Sht) (so : Int) : Int → List (Int × Int × Int × Int) → List (Int × Int × Int)
  | i, x :: t => (bif decide (eI (cellV c s so x.1 x.2.1) = eI (cellV c s so x.2.2.1 x.2.2.2)) then [] else [((3 : Int), i, (0 : Int))]) ++ copF c s so (i + 1) t
  | _, [] => []
noncomputable def rowsA (c : Cir) (s : Sht) (so k : Int) (n : Nat) : List (List Nat) := (List.range n).map fun (r : Nat) => rowV c s so k (qsN [] c.nodes) (r : Int)
/-- All constraints that a sheet breaks. -/
noncomputable def fltV (c : Cir) (s : Sht) (so k : Int) : List (Int × Int × Int) := gatesF c k (rowsA c s so k (usN k).toNat) 0 c.gates ++ (looksF (rowsA c s so k (usN k).toNat) 0 c.looks ++ copF c s so 0 s.cp)
noncomputable def fltR (c : Cir) (s : Sht) (so k : Int) : List (Int × Int × Int) × Int := if fE so ≠ 0 then ([], fE so) else if fitV c k s ≠ 0 then ([], fitV c k s) else (fltV c s so k, 0)
theorem gateR_len (rows : List (List Nat)) (g i : Int) : ∀ (d : Nat) (r : Int), (gateR rows g i d r).length ≤ d
  | 0, _ => Nat.le_refl _
  | d + 1, r => by
    have := gateR_len rows g i d (r + 1)
    rw [gateR, List.length_append]
    cases decide (eI (gE (gT rows r.toNat) g.toNat) = [(0 : Int), (0 : Int), (0 : Int), (0 : Int)]) <;> simp <;> omega
theorem gatesF_len {c : Cir} {k : Int} {rows : List (List Nat)} {B : Nat} (h : ∀ g, ((rowsV c k g).2 - (rowsV c k g).1).toNat ≤ B) : ∀ (l : List Int) (i : Int), (gatesF c k rows i l).length ≤ l.length * B
  | [], _ => by simp [gatesF]
  | g :: t, i => by
    have h1 := gateR_len rows g i ((rowsV c k g).2 - (rowsV c k g).1).toNat (rowsV c k g).1
    have h2 := gatesF_len (rows := rows) h t (i + 1)
    have h3 := h g
    rw [gatesF, List.length_append, List.length_cons, Nat.add_mul]; omega
theorem looksF_len (rows : List (List Nat)) : ∀ (l : List (List Int × List Int)) (i : Int), (looksF rows i l).length ≤ l.length * rows.length
  | [], _ => by simp [looksF]
  | x :: t, i => by
    have h1 := missT_len (keysT rows x.2) x.1 rows 0
    have h2 := looksF_len rows t (i + 1)
    rw [looksF, List.length_append, List.length_map, List.length_cons, Nat.add_mul]
    show (lookV rows x.1 x.2).length + _ ≤ _
    rw [lookV]; omega
theorem copF_len (c : Cir) (s : Sht) (so : Int) : ∀ (l : List (Int × Int × Int × Int)) (i : Int), (copF c s so i l).length ≤ l.length
  | [], _ => Nat.le_refl _
  | x :: t, i => by
    have h2 := copF_len c s so t (i + 1)
    rw [copF, List.length_append, List.length_cons]
    cases decide (eI (cellV c s so x.1 x.2.1) = eI (cellV c s so x.2.2.1 x.2.2.2)) <;> simp <;> omega
theorem usN_le {k : Int} (h : k ≤ 5) : 0 ≤ usN k ∧ usN k ≤ 28 := by
  rw [usN]
  split
  · omega
  · have : k = 2 ∨ k = 3 ∨ k = 4 ∨ k = 5 := by omega
    rcases this with rfl | rfl | rfl | rfl <;> decide
theorem fltV_len {c : Cir} {s : Sht} {so k : Int} (h : chkC c = 0) (hk : k ≤ 5) (hp : s.cp.length ≤ 256) : (fltV c s so k).length ≤ 100000 := by
  have hl := chkC_len h
  have hu := usN_le hk
  have h1 := gatesF_len (c := c) (k := k) (rows := rowsA c s so k (usN k).toNat) (B := 28) (fun g => by
    have := rows_bnd (x := g) h (show k ≤ 10 by omega)
    omega) c.gates 0
  have h2 := looksF_len (rowsA c s so k (usN k).toNat) c.looks 0
  have h3 := copF_len c s so s.cp 0
  have h4 : (rowsA c s so k (usN k).toNat).length ≤ 28 := by rw [rowsA, List.length_map, List.length_range]; omega
  have h5 : c.looks.length * (rowsA c s so k (usN k).toNat).length ≤ 4 * 28 := Nat.mul_le_mul (by omega) h4
  rw [fltV, List.length_append, List.length_append]; omega
theorem gP_mem {l : List (Int × Int × Int × Int)} {k : Nat} (h : k < l.length) : gP l k ∈ l := by
  rw [gP, List.getD_eq_getElem?_getD, List.getElem?_eq_getElem h]
  exact List.getElem_mem h
theorem drop_gL {l : List (List Int × List Int)} {k : Nat} (h : k < l.length) : l.drop k = gL l k :: l.drop (k + 1) := by
  rw [List.drop_eq_getElem_cons h, gL, List.getD_eq_getElem?_getD, List.getElem?_eq_getElem h]; rfl
theorem rowV_len {c : Cir} (h : chkC c = 0) (s : Sht) {so : Int} (hs : fE so = 0) (k r : Int) : (rowV c s so k (qsN [] c.nodes) r).length = c.nodes.length := by
  obtain ⟨h0, _⟩ := chkC_zero h
  obtain ⟨out, _, h1, h2⟩ := vlR_okc ((fE_zero so).1 hs) (chkN_ord h0).2 (show (atQ s k r (qsN [] c.nodes)).length = (qsN [] c.nodes).length by rw [atQ, List.length_map]) (qsN_has c.nodes [])
  rw [rowV, h1]; exact h2
theorem rowsA_mem {c : Cir} (h : chkC c = 0) (s : Sht) {so : Int} (hs : fE so = 0) {k : Int} {n : Nat} : ∀ r ∈ rowsA c s so k n, r.length = c.nodes.length := by
  intro r hr
  obtain ⟨i, _, rfl⟩ := List.mem_map.1 hr
  exact rowV_len h s hs k _
theorem rowsA_ok {c : Cir} (s : Sht) {so k : Int} {n : Nat} : (rowsA c s so k n).length = n := by rw [rowsA, List.length_map, List.length_range]
theorem rowsA_succ (c : Cir) (s : Sht) (so k : Int) (i : Nat) : rowsA c s so k (i + 1) = rowsA c s so k i ++ [rowV c s so k (qsN [] c.nodes) (i : Int)] := by
  rw [rowsA, List.range_succ, List.map_append]; rfl
theorem gates_in {c : Cir} (h : chkC c = 0) : ∀ g ∈ c.gates, 0 ≤ g ∧ g < (c.nodes.length : Int) := by
  obtain ⟨_, hg⟩ := chkC_zero h
  intro g hg2
  exact of_decide_eq_true (any_not (goodB_all hg).2.1 g hg2)
theorem looks_in {c : Cir} (h : chkC c = 0) : ∀ l ∈ c.looks, l.1.length ≤ 4 ∧ l.2.length ≤ 4 ∧ (∀ g ∈ l.1, 0 ≤ g ∧ g < (c.nodes.length : Int)) ∧ ∀ g ∈ l.2, 0 ≤ g ∧ g < (c.nodes.length : Int) := by
  obtain ⟨_, hg⟩ := chkC_zero h
  intro l hl
  obtain ⟨h1, h2, h3, h4, h5⟩ := look_places (any_not (goodB_all hg).2.2.1 l hl)
  have fl : ∀ g, flatB c g = true → 0 ≤ g ∧ g < (c.nodes.length : Int) := fun g hh => by
    rw [flatB, Bool.and_eq_true] at hh
    exact of_decide_eq_true hh.1
  exact ⟨h4, by omega, fun g hh => fl g (h1 g hh), fun g hh => fl g (h2 g hh)⟩
theorem cps_in {c : Cir} {k : Int} {s : Sht} (h : fitV c k s = 0) : s.cp.length ≤ 256 ∧ ∀ x ∈ s.cp, (0 ≤ x.1 ∧ x.1 < (c.eqs.length : Int)) ∧ (0 ≤ x.2.2.1 ∧ x.2.2.1 < (c.eqs.length : Int)) := by
  have hw := (fitV_zero h).2.2.2.2.2.2
  rw [wrP, Bool.or_eq_false_iff, decide_eq_false_iff_not, List.any_eq_false] at hw
  refine ⟨by omega, fun x hx => ?_⟩
  have := hw.2 x hx
  rw [badP, badB, badB, Bool.or_eq_true, decide_eq_true_eq, decide_eq_true_eq] at this
  omega
end Go.Pl
namespace Go.Proofs.Ytlmjdcbhpffanaa
open Go.Sx Go.Pl
set_option linter.unusedVariables false
set_option maxRecDepth 100000
end Go.Proofs.Ytlmjdcbhpffanaa
/- All faults: the walk. -/
namespace Go.Proofs.Ytlmjdcbhpffanaa
open Go.Sx Go.Pl
set_option linter.unusedVariables false
set_option maxRecDepth 100000
theorem fltS (c : Cir) (s : Sht) (so k : Int) (K : List It → St → Prop) (R : SV → List HO → Prop) : W (xwp Try.prog X K79 [(49, [])] 60 (fxOf Try.f25 [] [⟨[0,1,0,1,1,1,1], [38,37,12,10,5,7,2], [(12,44,1)]⟩, ⟨[0,1,0,1,1,1,1,1,1], [51,50,49,14,12,10,5,7,2], [(14,76,3)]⟩, ⟨[0,1,1,0,0,1,1,0,0,1,0,1,1,1,1,1,1], [17,18,16,15,51,50,49,14,12,10,5,7,2], []⟩, ⟨[0,1,0,1,1,1,1,1,1,1], [87,86,85,14,12,10,5,7], []⟩, ⟨[0,1,1,0,0,1,1,0,0,1,0,1,1,1,1,1,1,1], [96,95,94,19,87,86,85,14,12,10,5,7], []⟩, ⟨[0,1,0,1,1,1,1,1,1,1,1], [111,110,109,14,10], []⟩]) [] [.at []] ⟨argsS 0 [.v (.int .i64 so), .agg [.v (.int .i64 c.fx), .v (.int .i64 c.ad), .v (.int .i64 c.ins), .x 0 [], .x 1 [], .x 2 [], .x 3 []], .v (.int .i64 k), .agg [.x 4 [], .x 5 [], .x 6 [], .x 7 []]], [.ext false (.s false 7 c.nodes.length (cN c.nodes)), .ext false (.s false 1 c.gates.length (cI c.gates)), .ext false (.s false 2 c.looks.length (cL c.looks)), .ext false (.s false 2 c.eqs.length (cK c.eqs)), .ext false (.s false 1 s.fx.length (cT s.fx)), .ext false (.s false 1 s.ad.length (cT s.ad)), .ext false (.s false 1 s.is.length (cT s.is)), .ext false (.s false 4 s.cp.length (cP s.cp))]⟩ K R) = W ((∀ (M : Mem), 0 + 4 ≤ 4) ∧ bif !fE so == (0 : Int) then bif !fE so == (0 : Int) then R (SV.tup [SV.v (Value.slice none 0 0), SV.v (vi64 (fE so))]) [] else K [It.at [0, 1, 0, 1, 1, 1, 1], It.blk 0, It.at [1, 1, 1, 1, 1]] (St.mk [(38, SV.v (vi64 (0 : Int))), (37, SV.v (vi64 (usN k))), (12, SV.o 0), (10, SV.v (Value.pointer none)), (5, SV.p 1 0), (7, SV.p 2 0), (2, SV.v (vi64 k))] [HO.rowc 44 1 0 (Ct.lit 1 []), HO.cells [SV.v (vi64 c.1), SV.v (vi64 c.2), SV.v (vi64 c.3), SV.x 3 [], SV.x 4 [], SV.x 5 [], SV.x 6 []] 27, HO.cells [SV.x 7 [], SV.x 8 [], SV.x 9 [], SV.x 10 []] 49, HO.ext false (Cell.s false 7 (List.length c.4) (cN c.4)), HO.ext false (Cell.s false 1 (List.length c.5) (cI c.5)), HO.ext false (Cell.s false 2 (List.length c.6) (cL c.6)), HO.ext false (Cell.s false 2 (List.length c.7) (cK c.7)), HO.ext false (Cell.s false 1 (List.length s.1) (cT s.1)), HO.ext false (Cell.s false 1 (List.length s.2) (cT s.2)), HO.ext false (Cell.s false 1 (List.length s.3) (cT s.3)), HO.ext false (Cell.s false 4 (List.length s.4) (cP s.4))]) else lF c.1 c.2 c.3 (List.length c.4) (List.length c.5) (List.length c.6) (List.length c.7) (List.length s.1) (List.length s.2) (List.length s.3) (List.length s.4) (cN c.4) (cI c.5) (cL c.6) (cK c.7) (cT s.1) (cT s.2) (cT s.3) (cP s.4) fun (c_1 : Cir) (s_1 : Sht) => bif !fitV c_1 k s_1 == (0 : Int) then bif !fitV c_1 k s_1 == (0 : Int) then R (SV.tup [SV.v (Value.slice none 0 0), SV.v (vi64 (fitV c_1 k s_1))]) [] else K [It.at [0, 1, 0, 1, 1, 1, 1], It.blk 0, It.at [1, 1, 1, 1, 1]] (St.mk [(38, SV.v (vi64 (0 : Int))), (37, SV.v (vi64 (usN k))), (12, SV.o 0), (10, SV.v (Value.pointer none)), (5, SV.p 1 0), (7, SV.p 2 0), (2, SV.v (vi64 k))] [HO.rowc 44 1 0 (Ct.lit 1 []), HO.cells [SV.v (vi64 c.1), SV.v (vi64 c.2), SV.v (vi64 c.3), SV.x 3 [], SV.x 4 [], SV.x 5 [], SV.x 6 []] 27, HO.cells [SV.x 7 [], SV.x 8 [], SV.x 9 [], SV.x 10 []] 49, HO.ext false (Cell.s false 7 (List.length c.4) (cN c.4)), HO.ext false (Cell.s false 1 (List.length c.5) (cI c.5)), HO.ext false (Cell.s false 2 (List.length c.6) (cL c.6)), HO.ext false (Cell.s false 2 (List.length c.7) (cK c.7)), HO.ext false (Cell.s false 1 (List.length s.1) (cT s.1)), HO.ext false (Cell.s false 1 (List.length s.2) (cT s.2)), HO.ext false (Cell.s false 1 (List.length s.3) (cT s.3)), HO.ext false (Cell.s false 4 (List.length s.4) (cP s.4))]) else ∃ (l : List Nd), List.length c.4 = List.length l ∧ IsC (List.length c.4) 7 (cN c.4) (cN l) ∧ List.length l ≤ 4000000000000 ∧ K [It.at [0, 1, 0, 1, 1, 1, 1], It.blk 0, It.at [1, 1, 1, 1, 1]] (St.mk [(38, SV.v (vi64 (0 : Int))), (37, SV.v (vi64 (usN k))), (12, SV.o 0), (10, SV.p 1 0), (5, SV.p 2 0), (7, SV.p 3 0), (2, SV.v (vi64 k))] [HO.rowc 44 1 0 (Ct.lit 1 []), HO.cells [SV.v (vi64 c.1), SV.v (vi64 c.2), SV.v (vi64 c.3), SV.x 4 [], SV.x 5 [], SV.x 6 [], SV.x 7 [], SV.x 8 [], SV.x 9 [], SV.x 10 [], SV.x 11 [], SV.v (vi64 so), SV.v (vi64 k), SV.o 12] 145, HO.cells [SV.v (vi64 c.1), SV.v (vi64 c.2), SV.v (vi64 c.3), SV.x 13 [], SV.x 14 [], SV.x 15 [], SV.x 16 []] 27, HO.cells [SV.x 17 [], SV.x 18 [], SV.x 19 [], SV.x 20 []] 49, HO.ext false (Cell.s false 7 (List.length c.4) (cN c.4)), HO.ext false (Cell.s false 1 (List.length c.5) (cI c.5)), HO.ext false (Cell.s false 2 (List.length c.6) (cL c.6)), HO.ext false (Cell.s false 2 (List.length c.7) (cK c.7)), HO.ext false (Cell.s false 1 (List.length s.1) (cT s.1)), HO.ext false (Cell.s false 1 (List.length s.2) (cT s.2)), HO.ext false (Cell.s false 1 (List.length s.3) (cT s.3)), HO.ext false (Cell.s false 4 (List.length s.4) (cP s.4)), HO.rowc 128 3 (List.length (qsN [] l)) (Ct.fn (cQ (qsN [] l))), HO.ext false (Cell.s false 7 (List.length c.4) (cN c.4)), HO.ext false (Cell.s false 1 (List.length c.5) (cI c.5)), HO.ext false (Cell.s false 2 (List.length c.6) (cL c.6)), HO.ext false (Cell.s false 2 (List.length c.7) (cK c.7)), HO.ext false (Cell.s false 1 (List.length s.1) (cT s.1)), HO.ext false (Cell.s false 1 (List.length s.2) (cT s.2)), HO.ext false (Cell.s false 1 (List.length s.3) (cT s.3)), HO.ext false (Cell.s false 4 (List.length s.4) (cP s.4))])) := by kernel_rfl
theorem fa0 (c : Cir) (s : Sht) (so k : Int) (qs : List (Int × Int × Int)) (rows : List (List Nat)) (n : Nat) (u : Int) (i M : Nat) (K : List It → St → Prop) (R : SV → List HO → Prop) : W (xwp Try.prog X K79 [] 60 (fxOf Try.f25 [] [⟨[0,1,0,1,1,1,1], [38,37,12,10,5,7,2], [(12,44,1)]⟩, ⟨[0,1,0,1,1,1,1,1,1], [51,50,49,14,12,10,5,7,2], [(14,76,3)]⟩, ⟨[0,1,1,0,0,1,1,0,0,1,0,1,1,1,1,1,1], [17,18,16,15,51,50,49,14,12,10,5,7,2], []⟩, ⟨[0,1,0,1,1,1,1,1,1,1], [87,86,85,14,12,10,5,7], []⟩, ⟨[0,1,1,0,0,1,1,0,0,1,0,1,1,1,1,1,1,1], [96,95,94,19,87,86,85,14,12,10,5,7], []⟩, ⟨[0,1,0,1,1,1,1,1,1,1,1], [111,110,109,14,10], []⟩]) [] (.at [0,0,1,0,1,1,1,1] :: .rnd [0,0,1,0,1,1,1,1] M :: [.blk 0, .at [1, 1, 1, 1, 1]]) (St.mk [(38, SV.v (vi64 (i : Int))), (37, SV.v (vi64 u)), (12, SV.o 0), (10, SV.p 1 0), (5, SV.p 2 0), (7, SV.p 3 0), (2, SV.v (vi64 k))] [HO.rowc 44 1 n (Ct.fn (cT rows)), HO.cells [SV.v (vi64 c.1), SV.v (vi64 c.2), SV.v (vi64 c.3), SV.x 4 [], SV.x 5 [], SV.x 6 [], SV.x 7 [], SV.x 8 [], SV.x 9 [], SV.x 10 [], SV.x 11 [], SV.v (vi64 so), SV.v (vi64 k), SV.o 12] 145, HO.cells [SV.v (vi64 c.1), SV.v (vi64 c.2), SV.v (vi64 c.3), SV.x 13 [], SV.x 14 [], SV.x 15 [], SV.x 16 []] 27, HO.cells [SV.x 17 [], SV.x 18 [], SV.x 19 [], SV.x 20 []] 49, HO.ext false (Cell.s false 7 (List.length c.4) (cN c.4)), HO.ext false (Cell.s false 1 (List.length c.5) (cI c.5)), HO.ext false (Cell.s false 2 (List.length c.6) (cL c.6)), HO.ext false (Cell.s false 2 (List.length c.7) (cK c.7)), HO.ext false (Cell.s false 1 (List.length s.1) (cT s.1)), HO.ext false (Cell.s false 1 (List.length s.2) (cT s.2)), HO.ext false (Cell.s false 1 (List.length s.3) (cT s.3)), HO.ext false (Cell.s false 4 (List.length s.4) (cP s.4)), HO.rowc 128 3 (List.length (qs)) (Ct.fn (cQ (qs))), HO.ext false (Cell.s false 7 (List.length c.4) (cN c.4)), HO.ext false (Cell.s false 1 (List.length c.5) (cI c.5)), HO.ext false (Cell.s false 2 (List.length c.6) (cL c.6)), HO.ext false (Cell.s false 2 (List.length c.7) (cK c.7)), HO.ext false (Cell.s false 1 (List.length s.1) (cT s.1)), HO.ext false (Cell.s false 1 (List.length s.2) (cT s.2)), HO.ext false (Cell.s false 1 (List.length s.3) (cT s.3)), HO.ext false (Cell.s false 4 (List.length s.4) (cP s.4))]) K R) = W (bif decide ((↑i : Int) < u) then lFk (lc 14 [Cell.v (vi64 c.1), Cell.v (vi64 c.2), Cell.v (vi64 c.3), Cell.s false 7 (List.length c.4) (cN c.4), Cell.s false 1 (List.length c.5) (cI c.5), Cell.s false 2 (List.length c.6) (cL c.6), Cell.s false 2 (List.length c.7) (cK c.7), Cell.s false 1 (List.length s.1) (cT s.1), Cell.s false 1 (List.length s.2) (cT s.2), Cell.s false 1 (List.length s.3) (cT s.3), Cell.s false 4 (List.length s.4) (cP s.4), Cell.v (vi64 so), Cell.v (vi64 k), Cell.s false 3 (List.length qs) (cQ qs)]) fun (c_1 : Cir) (s_1 : Sht) (so_1 k_1 : Int) (qs_1 : List (Int × Int × Int)) => (∀ (M : Mem), (n + 1) * 24 ≤ 140737488355328 ∧ n + 1 ≤ 140737488355328) ∧ K [It.rnd [0, 0, 1, 0, 1, 1, 1, 1] M, It.blk 0, It.at [1, 1, 1, 1, 1]] (St.mk [(38, SV.v (vi64 (IntKind.wrap IntKind.i64 ((↑i : Int) + (1 : Int))))), (37, SV.v (vi64 u)), (12, SV.o 0), (10, SV.p 1 0), (5, SV.p 2 0), (7, SV.p 3 0), (2, SV.v (vi64 k))] [HO.rowc 44 1 (n + 1) (Ct.app n (Ct.fn (cT rows)) (Ct.lit 1 [Cell.s false 4 (List.length (rowV c_1 s_1 so_1 k_1 qs_1 (↑i : Int))) (cE (rowV c_1 s_1 so_1 k_1 qs_1 (↑i : Int)))])), HO.cells [SV.v (vi64 c.1), SV.v (vi64 c.2), SV.v (vi64 c.3), SV.x 4 [], SV.x 5 [], SV.x 6 [], SV.x 7 [], SV.x 8 [], SV.x 9 [], SV.x 10 [], SV.x 11 [], SV.v (vi64 so), SV.v (vi64 k), SV.o 12] 145, HO.cells [SV.v (vi64 c.1), SV.v (vi64 c.2), SV.v (vi64 c.3), SV.x 13 [], SV.x 14 [], SV.x 15 [], SV.x 16 []] 27, HO.cells [SV.x 17 [], SV.x 18 [], SV.x 19 [], SV.x 20 []] 49, HO.ext false (Cell.s false 7 (List.length c.4) (cN c.4)), HO.ext false (Cell.s false 1 (List.length c.5) (cI c.5)), HO.ext false (Cell.s false 2 (List.length c.6) (cL c.6)), HO.ext false (Cell.s false 2 (List.length c.7) (cK c.7)), HO.ext false (Cell.s false 1 (List.length s.1) (cT s.1)), HO.ext false (Cell.s false 1 (List.length s.2) (cT s.2)), HO.ext false (Cell.s false 1 (List.length s.3) (cT s.3)), HO.ext false (Cell.s false 4 (List.length s.4) (cP s.4)), HO.rowc 128 3 (List.length qs) (Ct.fn (cQ qs)), HO.ext false (Cell.s false 7 (List.length c.4) (cN c.4)), HO.ext false (Cell.s false 1 (List.length c.5) (cI c.5)), HO.ext false (Cell.s false 2 (List.length c.6) (cL c.6)), HO.ext false (Cell.s false 2 (List.length c.7) (cK c.7)), HO.ext false (Cell.s false 1 (List.length s.1) (cT s.1)), HO.ext false (Cell.s false 1 (List.length s.2) (cT s.2)), HO.ext false (Cell.s false 1 (List.length s.3) (cT s.3)), HO.ext false (Cell.s false 4 (List.length s.4) (cP s.4))]) else K [It.at [0, 1, 0, 1, 1, 1, 1, 1, 1], It.blk 2, It.at [1, 1, 1, 1, 1, 1, 1]] (St.mk [(51, SV.v (vi64 (0 : Int))), (50, SV.v (vi64 (↑(List.length c.5) : Int))), (49, SV.x 0 []), (14, SV.o 1), (12, SV.o 2), (10, SV.p 3 0), (5, SV.p 4 0), (7, SV.p 5 0), (2, SV.v (vi64 k))] [HO.ext false (Cell.s false 1 (List.length c.5) (cI c.5)), HO.rowc 76 3 0 (Ct.lit 1 []), HO.rowc 44 1 n (Ct.fn (cT rows)), HO.cells [SV.v (vi64 c.1), SV.v (vi64 c.2), SV.v (vi64 c.3), SV.x 6 [], SV.x 7 [], SV.x 8 [], SV.x 9 [], SV.x 10 [], SV.x 11 [], SV.x 12 [], SV.x 13 [], SV.v (vi64 so), SV.v (vi64 k), SV.o 14] 145, HO.cells [SV.v (vi64 c.1), SV.v (vi64 c.2), SV.v (vi64 c.3), SV.x 15 [], SV.x 0 [], SV.x 16 [], SV.x 17 []] 27, HO.cells [SV.x 18 [], SV.x 19 [], SV.x 20 [], SV.x 21 []] 49, HO.ext false (Cell.s false 7 (List.length c.4) (cN c.4)), HO.ext false (Cell.s false 1 (List.length c.5) (cI c.5)), HO.ext false (Cell.s false 2 (List.length c.6) (cL c.6)), HO.ext false (Cell.s false 2 (List.length c.7) (cK c.7)), HO.ext false (Cell.s false 1 (List.length s.1) (cT s.1)), HO.ext false (Cell.s false 1 (List.length s.2) (cT s.2)), HO.ext false (Cell.s false 1 (List.length s.3) (cT s.3)), HO.ext false (Cell.s false 4 (List.length s.4) (cP s.4)), HO.rowc 128 3 (List.length qs) (Ct.fn (cQ qs)), HO.ext false (Cell.s false 7 (List.length c.4) (cN c.4)), HO.ext false (Cell.s false 2 (List.length c.6) (cL c.6)), HO.ext false (Cell.s false 2 (List.length c.7) (cK c.7)), HO.ext false (Cell.s false 1 (List.length s.1) (cT s.1)), HO.ext false (Cell.s false 1 (List.length s.2) (cT s.2)), HO.ext false (Cell.s false 1 (List.length s.3) (cT s.3)), HO.ext false (Cell.s false 4 (List.length s.4) (cP s.4))])) := by kernel_rfl
theorem fa1 (c : Cir) (s : Sht) (so k : Int) (qs : List (Int × Int × Int)) (rows : List (List Nat)) (n : Nat) (os : List (Int × Int × Int)) (m : Nat) (i M : Nat) (K : List It → St → Prop) (R : SV → List HO → Prop) : W (xwp Try.prog X K79 [] 60 (fxOf Try.f25 [] [⟨[0,1,0,1,1,1,1], [38,37,12,10,5,7,2], [(12,44,1)]⟩, ⟨[0,1,0,1,1,1,1,1,1], [51,50,49,14,12,10,5,7,2], [(14,76,3)]⟩, ⟨[0,1,1,0,0,1,1,0,0,1,0,1,1,1,1,1,1], [17,18,16,15,51,50,49,14,12,10,5,7,2], []⟩, ⟨[0,1,0,1,1,1,1,1,1,1], [87,86,85,14,12,10,5,7], []⟩, ⟨[0,1,1,0,0,1,1,0,0,1,0,1,1,1,1,1,1,1], [96,95,94,19,87,86,85,14,12,10,5,7], []⟩, ⟨[0,1,0,1,1,1,1,1,1,1,1], [111,110,109,14,10], []⟩]) [] (.at [0,0,1,0,1,1,1,1,1,1] :: .rnd [0,0,1,0,1,1,1,1,1,1] M :: [.blk 2, .at [1, 1, 1, 1, 1, 1, 1]]) (St.mk [(51, SV.v (vi64 (i : Int))), (50, SV.v (vi64 (↑(List.length c.5) : Int))), (49, SV.x 0 []), (14, SV.o 1), (12, SV.x 2 []), (10, SV.p 3 0), (5, SV.p 4 0), (7, SV.p 5 0), (2, SV.v (vi64 k))] [HO.ext false (Cell.s false 1 (List.length c.5) (cI c.5)), HO.rowc 76 3 m (Ct.fn (cQ os)), HO.ext false (Cell.s false 1 n (cT rows)), HO.cells [SV.v (vi64 c.1), SV.v (vi64 c.2), SV.v (vi64 c.3), SV.x 6 [], SV.x 7 [], SV.x 8 [], SV.x 9 [], SV.x 10 [], SV.x 11 [], SV.x 12 [], SV.x 13 [], SV.v (vi64 so), SV.v (vi64 k), SV.o 14] 145, HO.cells [SV.v (vi64 c.1), SV.v (vi64 c.2), SV.v (vi64 c.3), SV.x 15 [], SV.x 0 [], SV.x 16 [], SV.x 17 []] 27, HO.cells [SV.x 18 [], SV.x 19 [], SV.x 20 [], SV.x 21 []] 49, HO.ext false (Cell.s false 7 (List.length c.4) (cN c.4)), HO.ext false (Cell.s false 1 (List.length c.5) (cI c.5)), HO.ext false (Cell.s false 2 (List.length c.6) (cL c.6)), HO.ext false (Cell.s false 2 (List.length c.7) (cK c.7)), HO.ext false (Cell.s false 1 (List.length s.1) (cT s.1)), HO.ext false (Cell.s false 1 (List.length s.2) (cT s.2)), HO.ext false (Cell.s false 1 (List.length s.3) (cT s.3)), HO.ext false (Cell.s false 4 (List.length s.4) (cP s.4)), HO.rowc 128 3 (List.length qs) (Ct.fn (cQ qs)), HO.ext false (Cell.s false 7 (List.length c.4) (cN c.4)), HO.ext false (Cell.s false 2 (List.length c.6) (cL c.6)), HO.ext false (Cell.s false 2 (List.length c.7) (cK c.7)), HO.ext false (Cell.s false 1 (List.length s.1) (cT s.1)), HO.ext false (Cell.s false 1 (List.length s.2) (cT s.2)), HO.ext false (Cell.s false 1 (List.length s.3) (cT s.3)), HO.ext false (Cell.s false 4 (List.length s.4) (cP s.4))]) K R) = W (bif decide ((↑i : Int) < (↑(List.length c.5) : Int)) then (∀ (M : Mem), (0 : Int) ≤ (↑i : Int) ∧ (↑i : Int) < (↑(List.length c.5) : Int)) ∧ (∀ (M : Mem), i < List.length c.5) ∧ lC c.1 c.2 c.3 (List.length c.4) (List.length c.5) (List.length c.6) (List.length c.7) (cN c.4) (cI c.5) (cL c.6) (cK c.7) fun (c_1 : Cir) => K [It.at [0, 1, 1, 0, 0, 1, 1, 0, 0, 1, 0, 1, 1, 1, 1, 1, 1], It.blk 4, It.blk 3, It.at [1, 1, 1, 0, 0, 1, 0, 1, 1, 1, 1, 1, 1], It.rnd [0, 0, 1, 0, 1, 1, 1, 1, 1, 1] M, It.blk 2, It.at [1, 1, 1, 1, 1, 1, 1]] (St.mk [(17, SV.v (vi64 (rowsV c_1 k (gI c.5 i)).1)), (18, SV.v (vi64 (rowsV c_1 k (gI c.5 i)).2)), (16, SV.v (vi64 (gI c.5 i))), (15, SV.v (vi64 (↑i : Int))), (51, SV.v (vi64 (↑i : Int))), (50, SV.v (vi64 (↑(List.length c.5) : Int))), (49, SV.x 0 []), (14, SV.o 1), (12, SV.x 2 []), (10, SV.p 3 0), (5, SV.p 4 0), (7, SV.p 5 0), (2, SV.v (vi64 k))] [HO.ext false (Cell.s false 1 (List.length c.5) (cI c.5)), HO.rowc 76 3 m (Ct.fn (cQ os)), HO.ext false (Cell.s false 1 n (cT rows)), HO.cells [SV.v (vi64 c.1), SV.v (vi64 c.2), SV.v (vi64 c.3), SV.x 6 [], SV.x 7 [], SV.x 8 [], SV.x 9 [], SV.x 10 [], SV.x 11 [], SV.x 12 [], SV.x 13 [], SV.v (vi64 so), SV.v (vi64 k), SV.o 14] 145, HO.cells [SV.v (vi64 c.1), SV.v (vi64 c.2), SV.v (vi64 c.3), SV.x 15 [], SV.x 0 [], SV.x 16 [], SV.x 17 []] 27, HO.cells [SV.x 18 [], SV.x 19 [], SV.x 20 [], SV.x 21 []] 49, HO.ext false (Cell.s false 7 (List.length c.4) (cN c.4)), HO.ext false (Cell.s false 1 (List.length c.5) (cI c.5)), HO.ext false (Cell.s false 2 (List.length c.6) (cL c.6)), HO.ext false (Cell.s false 2 (List.length c.7) (cK c.7)), HO.ext false (Cell.s false 1 (List.length s.1) (cT s.1)), HO.ext false (Cell.s false 1 (List.length s.2) (cT s.2)), HO.ext false (Cell.s false 1 (List.length s.3) (cT s.3)), HO.ext false (Cell.s false 4 (List.length s.4) (cP s.4)), HO.rowc 128 3 (List.length qs) (Ct.fn (cQ qs)), HO.ext false (Cell.s false 7 (List.length c.4) (cN c.4)), HO.ext false (Cell.s false 2 (List.length c.6) (cL c.6)), HO.ext false (Cell.s false 2 (List.length c.7) (cK c.7)), HO.ext false (Cell.s false 1 (List.length s.1) (cT s.1)), HO.ext false (Cell.s false 1 (List.length s.2) (cT s.2)), HO.ext false (Cell.s false 1 (List.length s.3) (cT s.3)), HO.ext false (Cell.s false 4 (List.length s.4) (cP s.4))]) else K [It.at [0, 1, 0, 1, 1, 1, 1, 1, 1, 1], It.blk 6, It.at [1, 1, 1, 1, 1, 1, 1, 1]] (St.mk [(87, SV.v (vi64 (0 : Int))), (86, SV.v (vi64 (↑(List.length c.6) : Int))), (85, SV.x 0 []), (14, SV.o 1), (12, SV.x 2 []), (10, SV.p 3 0), (5, SV.p 4 0), (7, SV.p 5 0)] [HO.ext false (Cell.s false 2 (List.length c.6) (cL c.6)), HO.rowc 76 3 m (Ct.fn (cQ os)), HO.ext false (Cell.s false 1 n (cT rows)), HO.cells [SV.v (vi64 c.1), SV.v (vi64 c.2), SV.v (vi64 c.3), SV.x 6 [], SV.x 7 [], SV.x 8 [], SV.x 9 [], SV.x 10 [], SV.x 11 [], SV.x 12 [], SV.x 13 [], SV.v (vi64 so), SV.v (vi64 k), SV.o 14] 145, HO.cells [SV.v (vi64 c.1), SV.v (vi64 c.2), SV.v (vi64 c.3), SV.x 15 [], SV.x 16 [], SV.x 0 [], SV.x 17 []] 27, HO.cells [SV.x 18 [], SV.x 19 [], SV.x 20 [], SV.x 21 []] 49, HO.ext false (Cell.s false 7 (List.length c.4) (cN c.4)), HO.ext false (Cell.s false 1 (List.length c.5) (cI c.5)), HO.ext false (Cell.s false 2 (List.length c.6) (cL c.6)), HO.ext false (Cell.s false 2 (List.length c.7) (cK c.7)), HO.ext false (Cell.s false 1 (List.length s.1) (cT s.1)), HO.ext false (Cell.s false 1 (List.length s.2) (cT s.2)), HO.ext false (Cell.s false 1 (List.length s.3) (cT s.3)), HO.ext false (Cell.s false 4 (List.length s.4) (cP s.4)), HO.rowc 128 3 (List.length qs) (Ct.fn (cQ qs)), HO.ext false (Cell.s false 7 (List.length c.4) (cN c.4)), HO.ext false (Cell.s false 1 (List.length c.5) (cI c.5)), HO.ext false (Cell.s false 2 (List.length c.7) (cK c.7)), HO.ext false (Cell.s false 1 (List.length s.1) (cT s.1)), HO.ext false (Cell.s false 1 (List.length s.2) (cT s.2)), HO.ext false (Cell.s false 1 (List.length s.3) (cT s.3)), HO.ext false (Cell.s false 4 (List.length s.4) (cP s.4))])) := by kernel_rfl
theorem fa2 (c : Cir) (s : Sht) (so k : Int) (qs : List (Int × Int × Int)) (rows : List (List Nat)) (n : Nat) (os : List (Int × Int × Int)) (m : Nat) (i M2 M : Nat) (r to : Int) (K : List It → St → Prop) (R : SV → List HO → Prop) : W (xwp Try.prog X K79 [] 60 (fxOf Try.f25 [] [⟨[0,1,0,1,1,1,1], [38,37,12,10,5,7,2], [(12,44,1)]⟩, ⟨[0,1,0,1,1,1,1,1,1], [51,50,49,14,12,10,5,7,2], [(14,76,3)]⟩, ⟨[0,1,1,0,0,1,1,0,0,1,0,1,1,1,1,1,1], [17,18,16,15,51,50,49,14,12,10,5,7,2], []⟩, ⟨[0,1,0,1,1,1,1,1,1,1], [87,86,85,14,12,10,5,7], []⟩, ⟨[0,1,1,0,0,1,1,0,0,1,0,1,1,1,1,1,1,1], [96,95,94,19,87,86,85,14,12,10,5,7], []⟩, ⟨[0,1,0,1,1,1,1,1,1,1,1], [111,110,109,14,10], []⟩]) [] (.at [0,0,1,1,0,0,1,1,0,0,1,0,1,1,1,1,1,1] :: .rnd [0,0,1,1,0,0,1,1,0,0,1,0,1,1,1,1,1,1] M :: [.blk 4, .blk 3, .at [1, 1, 1, 0, 0, 1, 0, 1, 1, 1, 1, 1, 1], .rnd [0, 0, 1, 0, 1, 1, 1, 1, 1, 1] M2, .blk 2, .at [1, 1, 1, 1, 1, 1, 1]]) (St.mk [(17, SV.v (vi64 r)), (18, SV.v (vi64 to)), (16, SV.v (vi64 (gI c.5 i))), (15, SV.v (vi64 (↑i : Int))), (51, SV.v (vi64 (↑i : Int))), (50, SV.v (vi64 (↑(List.length c.5) : Int))), (49, SV.x 0 []), (14, SV.o 1), (12, SV.x 2 []), (10, SV.p 3 0), (5, SV.p 4 0), (7, SV.p 5 0), (2, SV.v (vi64 k))] [HO.ext false (Cell.s false 1 (List.length c.5) (cI c.5)), HO.rowc 76 3 m (Ct.fn (cQ os)), HO.ext false (Cell.s false 1 n (cT rows)), HO.cells [SV.v (vi64 c.1), SV.v (vi64 c.2), SV.v (vi64 c.3), SV.x 6 [], SV.x 7 [], SV.x 8 [], SV.x 9 [], SV.x 10 [], SV.x 11 [], SV.x 12 [], SV.x 13 [], SV.v (vi64 so), SV.v (vi64 k), SV.o 14] 145, HO.cells [SV.v (vi64 c.1), SV.v (vi64 c.2), SV.v (vi64 c.3), SV.x 15 [], SV.x 0 [], SV.x 16 [], SV.x 17 []] 27, HO.cells [SV.x 18 [], SV.x 19 [], SV.x 20 [], SV.x 21 []] 49, HO.ext false (Cell.s false 7 (List.length c.4) (cN c.4)), HO.ext false (Cell.s false 1 (List.length c.5) (cI c.5)), HO.ext false (Cell.s false 2 (List.length c.6) (cL c.6)), HO.ext false (Cell.s false 2 (List.length c.7) (cK c.7)), HO.ext false (Cell.s false 1 (List.length s.1) (cT s.1)), HO.ext false (Cell.s false 1 (List.length s.2) (cT s.2)), HO.ext false (Cell.s false 1 (List.length s.3) (cT s.3)), HO.ext false (Cell.s false 4 (List.length s.4) (cP s.4)), HO.rowc 128 3 (List.length qs) (Ct.fn (cQ qs)), HO.ext false (Cell.s false 7 (List.length c.4) (cN c.4)), HO.ext false (Cell.s false 2 (List.length c.6) (cL c.6)), HO.ext false (Cell.s false 2 (List.length c.7) (cK c.7)), HO.ext false (Cell.s false 1 (List.length s.1) (cT s.1)), HO.ext false (Cell.s false 1 (List.length s.2) (cT s.2)), HO.ext false (Cell.s false 1 (List.length s.3) (cT s.3)), HO.ext false (Cell.s false 4 (List.length s.4) (cP s.4))]) K R) = W (bif decide (r < to) then (∀ (M : Mem), (0 : Int) ≤ r ∧ r < (↑n : Int)) ∧ (∀ (M : Mem), Int.toNat r < n) ∧ (∀ (M : Mem), Int.toNat r < n) ∧ (∀ (M : Mem), (0 : Int) ≤ gI c.5 i ∧ gI c.5 i < (↑(List.length (gT rows (Int.toNat r))) : Int)) ∧ (∀ (M : Mem), Int.toNat r < n) ∧ (∀ (M : Mem), Int.toNat (gI c.5 i) < List.length (gT rows (Int.toNat r))) ∧ bif !decide ((eI (gE (gT rows (Int.toNat r)) (Int.toNat (gI c.5 i)))) = [(0 : Int), (0 : Int), (0 : Int), (0 : Int)]) then (∀ (M : Mem), (m + 1) * 24 ≤ 140737488355328 ∧ m + 1 ≤ 140737488355328) ∧ K [It.rnd [0, 0, 1, 1, 0, 0, 1, 1, 0, 0, 1, 0, 1, 1, 1, 1, 1, 1] M, It.blk 4, It.blk 3, It.at [1, 1, 1, 0, 0, 1, 0, 1, 1, 1, 1, 1, 1], It.rnd [0, 0, 1, 0, 1, 1, 1, 1, 1, 1] M2, It.blk 2, It.at [1, 1, 1, 1, 1, 1, 1]] (St.mk [(17, SV.v (vi64 (IntKind.wrap IntKind.i64 (r + (1 : Int))))), (18, SV.v (vi64 to)), (16, SV.v (vi64 (gI c.5 i))), (15, SV.v (vi64 (↑i : Int))), (51, SV.v (vi64 (↑i : Int))), (50, SV.v (vi64 (↑(List.length c.5) : Int))), (49, SV.x 0 []), (14, SV.o 1), (12, SV.x 2 []), (10, SV.p 3 0), (5, SV.p 4 0), (7, SV.p 5 0), (2, SV.v (vi64 k))] [HO.ext false (Cell.s false 1 (List.length c.5) (cI c.5)), HO.rowc 76 3 (m + 1) (Ct.app m (Ct.fn (cQ os)) (Ct.lit 3 [Cell.v (vi64 (1 : Int)), Cell.v (vi64 (↑i : Int)), Cell.v (vi64 r)])), HO.ext false (Cell.s false 1 n (cT rows)), HO.cells [SV.v (vi64 c.1), SV.v (vi64 c.2), SV.v (vi64 c.3), SV.x 6 [], SV.x 7 [], SV.x 8 [], SV.x 9 [], SV.x 10 [], SV.x 11 [], SV.x 12 [], SV.x 13 [], SV.v (vi64 so), SV.v (vi64 k), SV.o 14] 145, HO.cells [SV.v (vi64 c.1), SV.v (vi64 c.2), SV.v (vi64 c.3), SV.x 15 [], SV.x 0 [], SV.x 16 [], SV.x 17 []] 27, HO.cells [SV.x 18 [], SV.x 19 [], SV.x 20 [], SV.x 21 []] 49, HO.ext false (Cell.s false 7 (List.length c.4) (cN c.4)), HO.ext false (Cell.s false 1 (List.length c.5) (cI c.5)), HO.ext false (Cell.s false 2 (List.length c.6) (cL c.6)), HO.ext false (Cell.s false 2 (List.length c.7) (cK c.7)), HO.ext false (Cell.s false 1 (List.length s.1) (cT s.1)), HO.ext false (Cell.s false 1 (List.length s.2) (cT s.2)), HO.ext false (Cell.s false 1 (List.length s.3) (cT s.3)), HO.ext false (Cell.s false 4 (List.length s.4) (cP s.4)), HO.rowc 128 3 (List.length qs) (Ct.fn (cQ qs)), HO.ext false (Cell.s false 7 (List.length c.4) (cN c.4)), HO.ext false (Cell.s false 2 (List.length c.6) (cL c.6)), HO.ext false (Cell.s false 2 (List.length c.7) (cK c.7)), HO.ext false (Cell.s false 1 (List.length s.1) (cT s.1)), HO.ext false (Cell.s false 1 (List.length s.2) (cT s.2)), HO.ext false (Cell.s false 1 (List.length s.3) (cT s.3)), HO.ext false (Cell.s false 4 (List.length s.4) (cP s.4))]) else K [It.rnd [0, 0, 1, 1, 0, 0, 1, 1, 0, 0, 1, 0, 1, 1, 1, 1, 1, 1] M, It.blk 4, It.blk 3, It.at [1, 1, 1, 0, 0, 1, 0, 1, 1, 1, 1, 1, 1], It.rnd [0, 0, 1, 0, 1, 1, 1, 1, 1, 1] M2, It.blk 2, It.at [1, 1, 1, 1, 1, 1, 1]] (St.mk [(17, SV.v (vi64 (IntKind.wrap IntKind.i64 (r + (1 : Int))))), (18, SV.v (vi64 to)), (16, SV.v (vi64 (gI c.5 i))), (15, SV.v (vi64 (↑i : Int))), (51, SV.v (vi64 (↑i : Int))), (50, SV.v (vi64 (↑(List.length c.5) : Int))), (49, SV.x 0 []), (14, SV.o 1), (12, SV.x 2 []), (10, SV.p 3 0), (5, SV.p 4 0), (7, SV.p 5 0), (2, SV.v (vi64 k))] [HO.ext false (Cell.s false 1 (List.length c.5) (cI c.5)), HO.rowc 76 3 m (Ct.fn (cQ os)), HO.ext false (Cell.s false 1 n (cT rows)), HO.cells [SV.v (vi64 c.1), SV.v (vi64 c.2), SV.v (vi64 c.3), SV.x 6 [], SV.x 7 [], SV.x 8 [], SV.x 9 [], SV.x 10 [], SV.x 11 [], SV.x 12 [], SV.x 13 [], SV.v (vi64 so), SV.v (vi64 k), SV.o 14] 145, HO.cells [SV.v (vi64 c.1), SV.v (vi64 c.2), SV.v (vi64 c.3), SV.x 15 [], SV.x 0 [], SV.x 16 [], SV.x 17 []] 27, HO.cells [SV.x 18 [], SV.x 19 [], SV.x 20 [], SV.x 21 []] 49, HO.ext false (Cell.s false 7 (List.length c.4) (cN c.4)), HO.ext false (Cell.s false 1 (List.length c.5) (cI c.5)), HO.ext false (Cell.s false 2 (List.length c.6) (cL c.6)), HO.ext false (Cell.s false 2 (List.length c.7) (cK c.7)), HO.ext false (Cell.s false 1 (List.length s.1) (cT s.1)), HO.ext false (Cell.s false 1 (List.length s.2) (cT s.2)), HO.ext false (Cell.s false 1 (List.length s.3) (cT s.3)), HO.ext false (Cell.s false 4 (List.length s.4) (cP s.4)), HO.rowc 128 3 (List.length qs) (Ct.fn (cQ qs)), HO.ext false (Cell.s false 7 (List.length c.4) (cN c.4)), HO.ext false (Cell.s false 2 (List.length c.6) (cL c.6)), HO.ext false (Cell.s false 2 (List.length c.7) (cK c.7)), HO.ext false (Cell.s false 1 (List.length s.1) (cT s.1)), HO.ext false (Cell.s false 1 (List.length s.2) (cT s.2)), HO.ext false (Cell.s false 1 (List.length s.3) (cT s.3)), HO.ext false (Cell.s false 4 (List.length s.4) (cP s.4))]) else K [It.rnd [0, 0, 1, 0, 1, 1, 1, 1, 1, 1] M2, It.blk 2, It.at [1, 1, 1, 1, 1, 1, 1]] (St.mk [(51, SV.v (vi64 (IntKind.wrap IntKind.i64 ((↑i : Int) + (1 : Int))))), (50, SV.v (vi64 (↑(List.length c.5) : Int))), (49, SV.x 0 []), (14, SV.o 1), (12, SV.x 2 []), (10, SV.p 3 0), (5, SV.p 4 0), (7, SV.p 5 0), (2, SV.v (vi64 k))] [HO.ext false (Cell.s false 1 (List.length c.5) (cI c.5)), HO.rowc 76 3 m (Ct.fn (cQ os)), HO.ext false (Cell.s false 1 n (cT rows)), HO.cells [SV.v (vi64 c.1), SV.v (vi64 c.2), SV.v (vi64 c.3), SV.x 6 [], SV.x 7 [], SV.x 8 [], SV.x 9 [], SV.x 10 [], SV.x 11 [], SV.x 12 [], SV.x 13 [], SV.v (vi64 so), SV.v (vi64 k), SV.o 14] 145, HO.cells [SV.v (vi64 c.1), SV.v (vi64 c.2), SV.v (vi64 c.3), SV.x 15 [], SV.x 0 [], SV.x 16 [], SV.x 17 []] 27, HO.cells [SV.x 18 [], SV.x 19 [], SV.x 20 [], SV.x 21 []] 49, HO.ext false (Cell.s false 7 (List.length c.4) (cN c.4)), HO.ext false (Cell.s false 1 (List.length c.5) (cI c.5)), HO.ext false (Cell.s false 2 (List.length c.6) (cL c.6)), HO.ext false (Cell.s false 2 (List.length c.7) (cK c.7)), HO.ext false (Cell.s false 1 (List.length s.1) (cT s.1)), HO.ext false (Cell.s false 1 (List.length s.2) (cT s.2)), HO.ext false (Cell.s false 1 (List.length s.3) (cT s.3)), HO.ext false (Cell.s false 4 (List.length s.4) (cP s.4)), HO.rowc 128 3 (List.length qs) (Ct.fn (cQ qs)), HO.ext false (Cell.s false 7 (List.length c.4) (cN c.4)), HO.ext false (Cell.s false 2 (List.length c.6) (cL c.6)), HO.ext false (Cell.s false 2 (List.length c.7) (cK c.7)), HO.ext false (Cell.s false 1 (List.length s.1) (cT s.1)), HO.ext false (Cell.s false 1 (List.length s.2) (cT s.2)), HO.ext false (Cell.s false 1 (List.length s.3) (cT s.3)), HO.ext false (Cell.s false 4 (List.length s.4) (cP s.4))])) := by kernel_rfl
theorem fa3 (c : Cir) (s : Sht) (so k : Int) (qs : List (Int × Int × Int)) (rows : List (List Nat)) (n : Nat) (os : List (Int × Int × Int)) (m : Nat) (i M : Nat) (K : List It → St → Prop) (R : SV → List HO → Prop) : W (xwp Try.prog X K79 [] 60 (fxOf Try.f25 [] [⟨[0,1,0,1,1,1,1], [38,37,12,10,5,7,2], [(12,44,1)]⟩, ⟨[0,1,0,1,1,1,1,1,1], [51,50,49,14,12,10,5,7,2], [(14,76,3)]⟩, ⟨[0,1,1,0,0,1,1,0,0,1,0,1,1,1,1,1,1], [17,18,16,15,51,50,49,14,12,10,5,7,2], []⟩, ⟨[0,1,0,1,1,1,1,1,1,1], [87,86,85,14,12,10,5,7], []⟩, ⟨[0,1,1,0,0,1,1,0,0,1,0,1,1,1,1,1,1,1], [96,95,94,19,87,86,85,14,12,10,5,7], []⟩, ⟨[0,1,0,1,1,1,1,1,1,1,1], [111,110,109,14,10], []⟩]) [] (.at [0,0,1,0,1,1,1,1,1,1,1] :: .rnd [0,0,1,0,1,1,1,1,1,1,1] M :: [.blk 6, .at [1, 1, 1, 1, 1, 1, 1, 1]]) (St.mk [(87, SV.v (vi64 (i : Int))), (86, SV.v (vi64 (↑(List.length c.6) : Int))), (85, SV.x 0 []), (14, SV.o 1), (12, SV.x 2 []), (10, SV.p 3 0), (5, SV.p 4 0), (7, SV.p 5 0)] [HO.ext false (Cell.s false 2 (List.length c.6) (cL c.6)), HO.rowc 76 3 m (Ct.fn (cQ os)), HO.ext false (Cell.s false 1 n (cT rows)), HO.cells [SV.v (vi64 c.1), SV.v (vi64 c.2), SV.v (vi64 c.3), SV.x 6 [], SV.x 7 [], SV.x 8 [], SV.x 9 [], SV.x 10 [], SV.x 11 [], SV.x 12 [], SV.x 13 [], SV.v (vi64 so), SV.v (vi64 k), SV.o 14] 145, HO.cells [SV.v (vi64 c.1), SV.v (vi64 c.2), SV.v (vi64 c.3), SV.x 15 [], SV.x 16 [], SV.x 0 [], SV.x 17 []] 27, HO.cells [SV.x 18 [], SV.x 19 [], SV.x 20 [], SV.x 21 []] 49, HO.ext false (Cell.s false 7 (List.length c.4) (cN c.4)), HO.ext false (Cell.s false 1 (List.length c.5) (cI c.5)), HO.ext false (Cell.s false 2 (List.length c.6) (cL c.6)), HO.ext false (Cell.s false 2 (List.length c.7) (cK c.7)), HO.ext false (Cell.s false 1 (List.length s.1) (cT s.1)), HO.ext false (Cell.s false 1 (List.length s.2) (cT s.2)), HO.ext false (Cell.s false 1 (List.length s.3) (cT s.3)), HO.ext false (Cell.s false 4 (List.length s.4) (cP s.4)), HO.rowc 128 3 (List.length qs) (Ct.fn (cQ qs)), HO.ext false (Cell.s false 7 (List.length c.4) (cN c.4)), HO.ext false (Cell.s false 1 (List.length c.5) (cI c.5)), HO.ext false (Cell.s false 2 (List.length c.7) (cK c.7)), HO.ext false (Cell.s false 1 (List.length s.1) (cT s.1)), HO.ext false (Cell.s false 1 (List.length s.2) (cT s.2)), HO.ext false (Cell.s false 1 (List.length s.3) (cT s.3)), HO.ext false (Cell.s false 4 (List.length s.4) (cP s.4))]) K R) = W (bif decide ((↑i : Int) < (↑(List.length c.6) : Int)) then (∀ (M : Mem), (0 : Int) ≤ (↑i : Int) ∧ (↑i : Int) < (↑(List.length c.6) : Int)) ∧ (∀ (M : Mem), i < List.length c.6) ∧ (∀ (M : Mem), 0 + 2 ≤ 2) ∧ (∀ (M : Mem), i < List.length c.6) ∧ (∀ (M : Mem), i < List.length c.6) ∧ lLo n (List.length (gL c.6 i).1) (List.length (gL c.6 i).2) (cT rows) (cI (gL c.6 i).1) (cI (gL c.6 i).2) fun (rows_1 : List (List Nat)) (ins tabs : List Int) => K [It.at [0, 1, 1, 0, 0, 1, 1, 0, 0, 1, 0, 1, 1, 1, 1, 1, 1, 1], It.blk 8, It.blk 7, It.at [1, 1, 1, 0, 0, 1, 0, 1, 1, 1, 1, 1, 1, 1], It.rnd [0, 0, 1, 0, 1, 1, 1, 1, 1, 1, 1] M, It.blk 6, It.at [1, 1, 1, 1, 1, 1, 1, 1]] (St.mk [(96, SV.v (vi64 (0 : Int))), (95, SV.v (vi64 (↑(List.length (lookV rows_1 ins tabs)) : Int))), (94, SV.o 0), (19, SV.v (vi64 (↑i : Int))), (87, SV.v (vi64 (↑i : Int))), (86, SV.v (vi64 (↑(List.length c.6) : Int))), (85, SV.x 1 []), (14, SV.o 2), (12, SV.x 3 []), (10, SV.p 4 0), (5, SV.p 5 0), (7, SV.p 6 0)] [HO.rowc 3 1 (List.length (lookV rows_1 ins tabs)) (Ct.fn (cI (lookV rows_1 ins tabs))), HO.ext false (Cell.s false 2 (List.length c.6) (cL c.6)), HO.rowc 76 3 m (Ct.fn (cQ os)), HO.ext false (Cell.s false 1 n (cT rows)), HO.cells [SV.v (vi64 c.1), SV.v (vi64 c.2), SV.v (vi64 c.3), SV.x 7 [], SV.x 8 [], SV.x 9 [], SV.x 10 [], SV.x 11 [], SV.x 12 [], SV.x 13 [], SV.x 14 [], SV.v (vi64 so), SV.v (vi64 k), SV.o 15] 145, HO.cells [SV.v (vi64 c.1), SV.v (vi64 c.2), SV.v (vi64 c.3), SV.x 16 [], SV.x 17 [], SV.x 1 [], SV.x 18 []] 27, HO.cells [SV.x 19 [], SV.x 20 [], SV.x 21 [], SV.x 22 []] 49, HO.ext false (Cell.s false 7 (List.length c.4) (cN c.4)), HO.ext false (Cell.s false 1 (List.length c.5) (cI c.5)), HO.ext false (Cell.s false 2 (List.length c.6) (cL c.6)), HO.ext false (Cell.s false 2 (List.length c.7) (cK c.7)), HO.ext false (Cell.s false 1 (List.length s.1) (cT s.1)), HO.ext false (Cell.s false 1 (List.length s.2) (cT s.2)), HO.ext false (Cell.s false 1 (List.length s.3) (cT s.3)), HO.ext false (Cell.s false 4 (List.length s.4) (cP s.4)), HO.rowc 128 3 (List.length qs) (Ct.fn (cQ qs)), HO.ext false (Cell.s false 7 (List.length c.4) (cN c.4)), HO.ext false (Cell.s false 1 (List.length c.5) (cI c.5)), HO.ext false (Cell.s false 2 (List.length c.7) (cK c.7)), HO.ext false (Cell.s false 1 (List.length s.1) (cT s.1)), HO.ext false (Cell.s false 1 (List.length s.2) (cT s.2)), HO.ext false (Cell.s false 1 (List.length s.3) (cT s.3)), HO.ext false (Cell.s false 4 (List.length s.4) (cP s.4))]) else K [It.at [0, 1, 0, 1, 1, 1, 1, 1, 1, 1, 1], It.blk 10, It.at [1, 1, 1, 1, 1, 1, 1, 1, 1]] (St.mk [(111, SV.v (vi64 (0 : Int))), (110, SV.v (vi64 (↑(List.length s.4) : Int))), (109, SV.x 0 []), (14, SV.o 1), (10, SV.p 2 0)] [HO.ext false (Cell.s false 4 (List.length s.4) (cP s.4)), HO.rowc 76 3 m (Ct.fn (cQ os)), HO.cells [SV.v (vi64 c.1), SV.v (vi64 c.2), SV.v (vi64 c.3), SV.x 3 [], SV.x 4 [], SV.x 5 [], SV.x 6 [], SV.x 7 [], SV.x 8 [], SV.x 9 [], SV.x 10 [], SV.v (vi64 so), SV.v (vi64 k), SV.o 11] 145, HO.ext false (Cell.s false 7 (List.length c.4) (cN c.4)), HO.ext false (Cell.s false 1 (List.length c.5) (cI c.5)), HO.ext false (Cell.s false 2 (List.length c.6) (cL c.6)), HO.ext false (Cell.s false 2 (List.length c.7) (cK c.7)), HO.ext false (Cell.s false 1 (List.length s.1) (cT s.1)), HO.ext false (Cell.s false 1 (List.length s.2) (cT s.2)), HO.ext false (Cell.s false 1 (List.length s.3) (cT s.3)), HO.ext false (Cell.s false 4 (List.length s.4) (cP s.4)), HO.rowc 128 3 (List.length qs) (Ct.fn (cQ qs))])) := by kernel_rfl
theorem fa4 (c : Cir) (s : Sht) (so k : Int) (qs : List (Int × Int × Int)) (rows : List (List Nat)) (n : Nat) (os : List (Int × Int × Int)) (m : Nat) (ls : List Int) (i j M2 M : Nat) (K : List It → St → Prop) (R : SV → List HO → Prop) : W (xwp Try.prog X K79 [] 60 (fxOf Try.f25 [] [⟨[0,1,0,1,1,1,1], [38,37,12,10,5,7,2], [(12,44,1)]⟩, ⟨[0,1,0,1,1,1,1,1,1], [51,50,49,14,12,10,5,7,2], [(14,76,3)]⟩, ⟨[0,1,1,0,0,1,1,0,0,1,0,1,1,1,1,1,1], [17,18,16,15,51,50,49,14,12,10,5,7,2], []⟩, ⟨[0,1,0,1,1,1,1,1,1,1], [87,86,85,14,12,10,5,7], []⟩, ⟨[0,1,1,0,0,1,1,0,0,1,0,1,1,1,1,1,1,1], [96,95,94,19,87,86,85,14,12,10,5,7], []⟩, ⟨[0,1,0,1,1,1,1,1,1,1,1], [111,110,109,14,10], []⟩]) [] (.at [0,0,1,1,0,0,1,1,0,0,1,0,1,1,1,1,1,1,1] :: .rnd [0,0,1,1,0,0,1,1,0,0,1,0,1,1,1,1,1,1,1] M :: [.blk 8, .blk 7, .at [1, 1, 1, 0, 0, 1, 0, 1, 1, 1, 1, 1, 1, 1], .rnd [0, 0, 1, 0, 1, 1, 1, 1, 1, 1, 1] M2, .blk 6, .at [1, 1, 1, 1, 1, 1, 1, 1]]) (St.mk [(96, SV.v (vi64 (j : Int))), (95, SV.v (vi64 (↑(List.length (ls)) : Int))), (94, SV.o 0), (19, SV.v (vi64 (↑i : Int))), (87, SV.v (vi64 (↑i : Int))), (86, SV.v (vi64 (↑(List.length c.6) : Int))), (85, SV.x 1 []), (14, SV.o 2), (12, SV.x 3 []), (10, SV.p 4 0), (5, SV.p 5 0), (7, SV.p 6 0)] [HO.rowc 3 1 (List.length (ls)) (Ct.fn (cI (ls))), HO.ext false (Cell.s false 2 (List.length c.6) (cL c.6)), HO.rowc 76 3 m (Ct.fn (cQ os)), HO.ext false (Cell.s false 1 n (cT rows)), HO.cells [SV.v (vi64 c.1), SV.v (vi64 c.2), SV.v (vi64 c.3), SV.x 7 [], SV.x 8 [], SV.x 9 [], SV.x 10 [], SV.x 11 [], SV.x 12 [], SV.x 13 [], SV.x 14 [], SV.v (vi64 so), SV.v (vi64 k), SV.o 15] 145, HO.cells [SV.v (vi64 c.1), SV.v (vi64 c.2), SV.v (vi64 c.3), SV.x 16 [], SV.x 17 [], SV.x 1 [], SV.x 18 []] 27, HO.cells [SV.x 19 [], SV.x 20 [], SV.x 21 [], SV.x 22 []] 49, HO.ext false (Cell.s false 7 (List.length c.4) (cN c.4)), HO.ext false (Cell.s false 1 (List.length c.5) (cI c.5)), HO.ext false (Cell.s false 2 (List.length c.6) (cL c.6)), HO.ext false (Cell.s false 2 (List.length c.7) (cK c.7)), HO.ext false (Cell.s false 1 (List.length s.1) (cT s.1)), HO.ext false (Cell.s false 1 (List.length s.2) (cT s.2)), HO.ext false (Cell.s false 1 (List.length s.3) (cT s.3)), HO.ext false (Cell.s false 4 (List.length s.4) (cP s.4)), HO.rowc 128 3 (List.length qs) (Ct.fn (cQ qs)), HO.ext false (Cell.s false 7 (List.length c.4) (cN c.4)), HO.ext false (Cell.s false 1 (List.length c.5) (cI c.5)), HO.ext false (Cell.s false 2 (List.length c.7) (cK c.7)), HO.ext false (Cell.s false 1 (List.length s.1) (cT s.1)), HO.ext false (Cell.s false 1 (List.length s.2) (cT s.2)), HO.ext false (Cell.s false 1 (List.length s.3) (cT s.3)), HO.ext false (Cell.s false 4 (List.length s.4) (cP s.4))]) K R) = W (bif decide ((↑j : Int) < (↑(List.length ls) : Int)) then (∀ (M : Mem), (0 : Int) ≤ (↑j : Int) ∧ (↑j : Int) < (↑(List.length ls) : Int)) ∧ (∀ (M : Mem), j < List.length ls) ∧ (∀ (M : Mem), (m + 1) * 24 ≤ 140737488355328 ∧ m + 1 ≤ 140737488355328) ∧ K [It.rnd [0, 0, 1, 1, 0, 0, 1, 1, 0, 0, 1, 0, 1, 1, 1, 1, 1, 1, 1] M, It.blk 8, It.blk 7, It.at [1, 1, 1, 0, 0, 1, 0, 1, 1, 1, 1, 1, 1, 1], It.rnd [0, 0, 1, 0, 1, 1, 1, 1, 1, 1, 1] M2, It.blk 6, It.at [1, 1, 1, 1, 1, 1, 1, 1]] (St.mk [(96, SV.v (vi64 (IntKind.wrap IntKind.i64 ((↑j : Int) + (1 : Int))))), (95, SV.v (vi64 (↑(List.length ls) : Int))), (94, SV.o 0), (19, SV.v (vi64 (↑i : Int))), (87, SV.v (vi64 (↑i : Int))), (86, SV.v (vi64 (↑(List.length c.6) : Int))), (85, SV.x 1 []), (14, SV.o 2), (12, SV.x 3 []), (10, SV.p 4 0), (5, SV.p 5 0), (7, SV.p 6 0)] [HO.rowc 3 1 (List.length ls) (Ct.fn (cI ls)), HO.ext false (Cell.s false 2 (List.length c.6) (cL c.6)), HO.rowc 76 3 (m + 1) (Ct.app m (Ct.fn (cQ os)) (Ct.lit 3 [Cell.v (vi64 (2 : Int)), Cell.v (vi64 (↑i : Int)), Cell.v (vi64 (gI ls j))])), HO.ext false (Cell.s false 1 n (cT rows)), HO.cells [SV.v (vi64 c.1), SV.v (vi64 c.2), SV.v (vi64 c.3), SV.x 7 [], SV.x 8 [], SV.x 9 [], SV.x 10 [], SV.x 11 [], SV.x 12 [], SV.x 13 [], SV.x 14 [], SV.v (vi64 so), SV.v (vi64 k), SV.o 15] 145, HO.cells [SV.v (vi64 c.1), SV.v (vi64 c.2), SV.v (vi64 c.3), SV.x 16 [], SV.x 17 [], SV.x 1 [], SV.x 18 []] 27, HO.cells [SV.x 19 [], SV.x 20 [], SV.x 21 [], SV.x 22 []] 49, HO.ext false (Cell.s false 7 (List.length c.4) (cN c.4)), HO.ext false (Cell.s false 1 (List.length c.5) (cI c.5)), HO.ext false (Cell.s false 2 (List.length c.6) (cL c.6)), HO.ext false (Cell.s false 2 (List.length c.7) (cK c.7)), HO.ext false (Cell.s false 1 (List.length s.1) (cT s.1)), HO.ext false (Cell.s false 1 (List.length s.2) (cT s.2)), HO.ext false (Cell.s false 1 (List.length s.3) (cT s.3)), HO.ext false (Cell.s false 4 (List.length s.4) (cP s.4)), HO.rowc 128 3 (List.length qs) (Ct.fn (cQ qs)), HO.ext false (Cell.s false 7 (List.length c.4) (cN c.4)), HO.ext false (Cell.s false 1 (List.length c.5) (cI c.5)), HO.ext false (Cell.s false 2 (List.length c.7) (cK c.7)), HO.ext false (Cell.s false 1 (List.length s.1) (cT s.1)), HO.ext false (Cell.s false 1 (List.length s.2) (cT s.2)), HO.ext false (Cell.s false 1 (List.length s.3) (cT s.3)), HO.ext false (Cell.s false 4 (List.length s.4) (cP s.4))]) else K [It.rnd [0, 0, 1, 0, 1, 1, 1, 1, 1, 1, 1] M2, It.blk 6, It.at [1, 1, 1, 1, 1, 1, 1, 1]] (St.mk [(87, SV.v (vi64 (IntKind.wrap IntKind.i64 ((↑i : Int) + (1 : Int))))), (86, SV.v (vi64 (↑(List.length c.6) : Int))), (85, SV.x 0 []), (14, SV.o 1), (12, SV.x 2 []), (10, SV.p 3 0), (5, SV.p 4 0), (7, SV.p 5 0)] [HO.ext false (Cell.s false 2 (List.length c.6) (cL c.6)), HO.rowc 76 3 m (Ct.fn (cQ os)), HO.ext false (Cell.s false 1 n (cT rows)), HO.cells [SV.v (vi64 c.1), SV.v (vi64 c.2), SV.v (vi64 c.3), SV.x 6 [], SV.x 7 [], SV.x 8 [], SV.x 9 [], SV.x 10 [], SV.x 11 [], SV.x 12 [], SV.x 13 [], SV.v (vi64 so), SV.v (vi64 k), SV.o 14] 145, HO.cells [SV.v (vi64 c.1), SV.v (vi64 c.2), SV.v (vi64 c.3), SV.x 15 [], SV.x 16 [], SV.x 0 [], SV.x 17 []] 27, HO.cells [SV.x 18 [], SV.x 19 [], SV.x 20 [], SV.x 21 []] 49, HO.ext false (Cell.s false 7 (List.length c.4) (cN c.4)), HO.ext false (Cell.s false 1 (List.length c.5) (cI c.5)), HO.ext false (Cell.s false 2 (List.length c.6) (cL c.6)), HO.ext false (Cell.s false 2 (List.length c.7) (cK c.7)), HO.ext false (Cell.s false 1 (List.length s.1) (cT s.1)), HO.ext false (Cell.s false 1 (List.length s.2) (cT s.2)), HO.ext false (Cell.s false 1 (List.length s.3) (cT s.3)), HO.ext false (Cell.s false 4 (List.length s.4) (cP s.4)), HO.rowc 128 3 (List.length qs) (Ct.fn (cQ qs)), HO.ext false (Cell.s false 7 (List.length c.4) (cN c.4)), HO.ext false (Cell.s false 1 (List.length c.5) (cI c.5)), HO.ext false (Cell.s false 2 (List.length c.7) (cK c.7)), HO.ext false (Cell.s false 1 (List.length s.1) (cT s.1)), HO.ext false (Cell.s false 1 (List.length s.2) (cT s.2)), HO.ext false (Cell.s false 1 (List.length s.3) (cT s.3)), HO.ext false (Cell.s false 4 (List.length s.4) (cP s.4))])) := by kernel_rfl
theorem fa5 (c : Cir) (s : Sht) (so k : Int) (qs : List (Int × Int × Int)) (rows : List (List Nat)) (n : Nat) (os : List (Int × Int × Int)) (m : Nat) (i M : Nat) (K : List It → St → Prop) (R : SV → List HO → Prop) : W (xwp Try.prog X K79 [] 60 (fxOf Try.f25 [] [⟨[0,1,0,1,1,1,1], [38,37,12,10,5,7,2], [(12,44,1)]⟩, ⟨[0,1,0,1,1,1,1,1,1], [51,50,49,14,12,10,5,7,2], [(14,76,3)]⟩, ⟨[0,1,1,0,0,1,1,0,0,1,0,1,1,1,1,1,1], [17,18,16,15,51,50,49,14,12,10,5,7,2], []⟩, ⟨[0,1,0,1,1,1,1,1,1,1], [87,86,85,14,12,10,5,7], []⟩, ⟨[0,1,1,0,0,1,1,0,0,1,0,1,1,1,1,1,1,1], [96,95,94,19,87,86,85,14,12,10,5,7], []⟩, ⟨[0,1,0,1,1,1,1,1,1,1,1], [111,110,109,14,10], []⟩]) [] (.at [0,0,1,0,1,1,1,1,1,1,1,1] :: .rnd [0,0,1,0,1,1,1,1,1,1,1,1] M :: [.blk 10, .at [1, 1, 1, 1, 1, 1, 1, 1, 1]]) (St.mk [(111, SV.v (vi64 (i : Int))), (110, SV.v (vi64 (↑(List.length s.4) : Int))), (109, SV.x 0 []), (14, SV.o 1), (10, SV.p 2 0)] [HO.ext false (Cell.s false 4 (List.length s.4) (cP s.4)), HO.rowc 76 3 m (Ct.fn (cQ os)), HO.cells [SV.v (vi64 c.1), SV.v (vi64 c.2), SV.v (vi64 c.3), SV.x 3 [], SV.x 4 [], SV.x 5 [], SV.x 6 [], SV.x 7 [], SV.x 8 [], SV.x 9 [], SV.x 10 [], SV.v (vi64 so), SV.v (vi64 k), SV.o 11] 145, HO.ext false (Cell.s false 7 (List.length c.4) (cN c.4)), HO.ext false (Cell.s false 1 (List.length c.5) (cI c.5)), HO.ext false (Cell.s false 2 (List.length c.6) (cL c.6)), HO.ext false (Cell.s false 2 (List.length c.7) (cK c.7)), HO.ext false (Cell.s false 1 (List.length s.1) (cT s.1)), HO.ext false (Cell.s false 1 (List.length s.2) (cT s.2)), HO.ext false (Cell.s false 1 (List.length s.3) (cT s.3)), HO.ext false (Cell.s false 4 (List.length s.4) (cP s.4)), HO.rowc 128 3 (List.length qs) (Ct.fn (cQ qs))]) K R) = W (bif decide ((↑i : Int) < (↑(List.length s.4) : Int)) then (∀ (M : Mem), (0 : Int) ≤ (↑i : Int) ∧ (↑i : Int) < (↑(List.length s.4) : Int)) ∧ (∀ (M : Mem), i < List.length s.4) ∧ (∀ (M : Mem), 0 + 4 ≤ 4) ∧ lFk (lc 14 [Cell.v (vi64 c.1), Cell.v (vi64 c.2), Cell.v (vi64 c.3), Cell.s false 7 (List.length c.4) (cN c.4), Cell.s false 1 (List.length c.5) (cI c.5), Cell.s false 2 (List.length c.6) (cL c.6), Cell.s false 2 (List.length c.7) (cK c.7), Cell.s false 1 (List.length s.1) (cT s.1), Cell.s false 1 (List.length s.2) (cT s.2), Cell.s false 1 (List.length s.3) (cT s.3), Cell.s false 4 (List.length s.4) (cP s.4), Cell.v (vi64 so), Cell.v (vi64 k), Cell.s false 3 (List.length qs) (cQ qs)]) fun (c_1 : Cir) (s_1 : Sht) (so_1 k_1 : Int) (qs_1 : List (Int × Int × Int)) => ((0 : Int) ≤ (gP s.4 i).1 ∧ (gP s.4 i).1 < (↑(List.length c_1.7) : Int)) ∧ lFk (lc 14 [Cell.v (vi64 c.1), Cell.v (vi64 c.2), Cell.v (vi64 c.3), Cell.s false 7 (List.length c.4) (cN c.4), Cell.s false 1 (List.length c.5) (cI c.5), Cell.s false 2 (List.length c.6) (cL c.6), Cell.s false 2 (List.length c.7) (cK c.7), Cell.s false 1 (List.length s.1) (cT s.1), Cell.s false 1 (List.length s.2) (cT s.2), Cell.s false 1 (List.length s.3) (cT s.3), Cell.s false 4 (List.length s.4) (cP s.4), Cell.v (vi64 so), Cell.v (vi64 k), Cell.s false 3 (List.length qs) (cQ qs)]) fun (c_2 : Cir) (s_2 : Sht) (so_2 k_2 : Int) (qs_2 : List (Int × Int × Int)) => ((0 : Int) ≤ (gP s.4 i).2.2.1 ∧ (gP s.4 i).2.2.1 < (↑(List.length c_2.7) : Int)) ∧ bif !decide ((eI (cellV c_1 s_1 so_1 (gP s.4 i).1 (gP s.4 i).2.1)) = (eI (cellV c_2 s_2 so_2 (gP s.4 i).2.2.1 (gP s.4 i).2.2.2))) then (∀ (M : Mem), (m + 1) * 24 ≤ 140737488355328 ∧ m + 1 ≤ 140737488355328) ∧ K [It.rnd [0, 0, 1, 0, 1, 1, 1, 1, 1, 1, 1, 1] M, It.blk 10, It.at [1, 1, 1, 1, 1, 1, 1, 1, 1]] (St.mk [(111, SV.v (vi64 (IntKind.wrap IntKind.i64 ((↑i : Int) + (1 : Int))))), (110, SV.v (vi64 (↑(List.length s.4) : Int))), (109, SV.x 0 []), (14, SV.o 1), (10, SV.p 2 0)] [HO.ext false (Cell.s false 4 (List.length s.4) (cP s.4)), HO.rowc 76 3 (m + 1) (Ct.app m (Ct.fn (cQ os)) (Ct.lit 3 [Cell.v (vi64 (3 : Int)), Cell.v (vi64 (↑i : Int)), Cell.v (vi64 (0 : Int))])), HO.cells [SV.v (vi64 c.1), SV.v (vi64 c.2), SV.v (vi64 c.3), SV.x 3 [], SV.x 4 [], SV.x 5 [], SV.x 6 [], SV.x 7 [], SV.x 8 [], SV.x 9 [], SV.x 10 [], SV.v (vi64 so), SV.v (vi64 k), SV.o 11] 145, HO.ext false (Cell.s false 7 (List.length c.4) (cN c.4)), HO.ext false (Cell.s false 1 (List.length c.5) (cI c.5)), HO.ext false (Cell.s false 2 (List.length c.6) (cL c.6)), HO.ext false (Cell.s false 2 (List.length c.7) (cK c.7)), HO.ext false (Cell.s false 1 (List.length s.1) (cT s.1)), HO.ext false (Cell.s false 1 (List.length s.2) (cT s.2)), HO.ext false (Cell.s false 1 (List.length s.3) (cT s.3)), HO.ext false (Cell.s false 4 (List.length s.4) (cP s.4)), HO.rowc 128 3 (List.length qs) (Ct.fn (cQ qs))]) else K [It.rnd [0, 0, 1, 0, 1, 1, 1, 1, 1, 1, 1, 1] M, It.blk 10, It.at [1, 1, 1, 1, 1, 1, 1, 1, 1]] (St.mk [(111, SV.v (vi64 (IntKind.wrap IntKind.i64 ((↑i : Int) + (1 : Int))))), (110, SV.v (vi64 (↑(List.length s.4) : Int))), (109, SV.x 0 []), (14, SV.o 1), (10, SV.p 2 0)] [HO.ext false (Cell.s false 4 (List.length s.4) (cP s.4)), HO.rowc 76 3 m (Ct.fn (cQ os)), HO.cells [SV.v (vi64 c.1), SV.v (vi64 c.2), SV.v (vi64 c.3), SV.x 3 [], SV.x 4 [], SV.x 5 [], SV.x 6 [], SV.x 7 [], SV.x 8 [], SV.x 9 [], SV.x 10 [], SV.v (vi64 so), SV.v (vi64 k), SV.o 11] 145, HO.ext false (Cell.s false 7 (List.length c.4) (cN c.4)), HO.ext false (Cell.s false 1 (List.length c.5) (cI c.5)), HO.ext false (Cell.s false 2 (List.length c.6) (cL c.6)), HO.ext false (Cell.s false 2 (List.length c.7) (cK c.7)), HO.ext false (Cell.s false 1 (List.length s.1) (cT s.1)), HO.ext false (Cell.s false 1 (List.length s.2) (cT s.2)), HO.ext false (Cell.s false 1 (List.length s.3) (cT s.3)), HO.ext false (Cell.s false 4 (List.length s.4) (cP s.4)), HO.rowc 128 3 (List.length qs) (Ct.fn (cQ qs))]) else R (SV.tup [SV.o 0, SV.v (vi64 (0 : Int))]) [HO.rowc 76 3 m (Ct.fn (cQ os))]) := by kernel_rfl
noncomputable def fT0 (c : Cir) (s : Sht) (so k : Int) (qs : List (Int × Int × Int)) (rows : List (List Nat)) (u : Int) (i : Nat) : St := (St.mk [(38, SV.v (vi64 (i : Int))), (37, SV.v (vi64 u)), (12, SV.o 0), (10, SV.p 1 0), (5, SV.p 2 0), (7, SV.p 3 0), (2, SV.v (vi64 k))] [HO.rowc 44 1 rows.length (Ct.fn (cT rows)), HO.cells [SV.v (vi64 c.1), SV.v (vi64 c.2), SV.v (vi64 c.3), SV.x 4 [], SV.x 5 [], SV.x 6 [], SV.x 7 [], SV.x 8 [], SV.x 9 [], SV.x 10 [], SV.x 11 [], SV.v (vi64 so), SV.v (vi64 k), SV.o 12] 145, HO.cells [SV.v (vi64 c.1), SV.v (vi64 c.2), SV.v (vi64 c.3), SV.x 13 [], SV.x 14 [], SV.x 15 [], SV.x 16 []] 27, HO.cells [SV.x 17 [], SV.x 18 [], SV.x 19 [], SV.x 20 []] 49, HO.ext false (Cell.s false 7 (List.length c.4) (cN c.4)), HO.ext false (Cell.s false 1 (List.length c.5) (cI c.5)), HO.ext false (Cell.s false 2 (List.length c.6) (cL c.6)), HO.ext false (Cell.s false 2 (List.length c.7) (cK c.7)), HO.ext false (Cell.s false 1 (List.length s.1) (cT s.1)), HO.ext false (Cell.s false 1 (List.length s.2) (cT s.2)), HO.ext false (Cell.s false 1 (List.length s.3) (cT s.3)), HO.ext false (Cell.s false 4 (List.length s.4) (cP s.4)), HO.rowc 128 3 (List.length (qs)) (Ct.fn (cQ (qs))), HO.ext false (Cell.s false 7 (List.length c.4) (cN c.4)), HO.ext false (Cell.s false 1 (List.length c.5) (cI c.5)), HO.ext false (Cell.s false 2 (List.length c.6) (cL c.6)), HO.ext false (Cell.s false 2 (List.length c.7) (cK c.7)), HO.ext false (Cell.s false 1 (List.length s.1) (cT s.1)), HO.ext false (Cell.s false 1 (List.length s.2) (cT s.2)), HO.ext false (Cell.s false 1 (List.length s.3) (cT s.3)), HO.ext false (Cell.s false 4 (List.length s.4) (cP s.4))])
noncomputable def fT1 (c : Cir) (s : Sht) (so k : Int) (qs : List (Int × Int × Int)) (rows : List (List Nat)) (os : List (Int × Int × Int)) (i : Nat) : St := (St.mk [(51, SV.v (vi64 (i : Int))), (50, SV.v (vi64 (↑(List.length c.5) : Int))), (49, SV.x 0 []), (14, SV.o 1), (12, SV.x 2 []), (10, SV.p 3 0), (5, SV.p 4 0), (7, SV.p 5 0), (2, SV.v (vi64 k))] [HO.ext false (Cell.s false 1 (List.length c.5) (cI c.5)), HO.rowc 76 3 os.length (Ct.fn (cQ os)), HO.ext false (Cell.s false 1 rows.length (cT rows)), HO.cells [SV.v (vi64 c.1), SV.v (vi64 c.2), SV.v (vi64 c.3), SV.x 6 [], SV.x 7 [], SV.x 8 [], SV.x 9 [], SV.x 10 [], SV.x 11 [], SV.x 12 [], SV.x 13 [], SV.v (vi64 so), SV.v (vi64 k), SV.o 14] 145, HO.cells [SV.v (vi64 c.1), SV.v (vi64 c.2), SV.v (vi64 c.3), SV.x 15 [], SV.x 0 [], SV.x 16 [], SV.x 17 []] 27, HO.cells [SV.x 18 [], SV.x 19 [], SV.x 20 [], SV.x 21 []] 49, HO.ext false (Cell.s false 7 (List.length c.4) (cN c.4)), HO.ext false (Cell.s false 1 (List.length c.5) (cI c.5)), HO.ext false (Cell.s false 2 (List.length c.6) (cL c.6)), HO.ext false (Cell.s false 2 (List.length c.7) (cK c.7)), HO.ext false (Cell.s false 1 (List.length s.1) (cT s.1)), HO.ext false (Cell.s false 1 (List.length s.2) (cT s.2)), HO.ext false (Cell.s false 1 (List.length s.3) (cT s.3)), HO.ext false (Cell.s false 4 (List.length s.4) (cP s.4)), HO.rowc 128 3 (List.length qs) (Ct.fn (cQ qs)), HO.ext false (Cell.s false 7 (List.length c.4) (cN c.4)), HO.ext false (Cell.s false 2 (List.length c.6) (cL c.6)), HO.ext false (Cell.s false 2 (List.length c.7) (cK c.7)), HO.ext false (Cell.s false 1 (List.length s.1) (cT s.1)), HO.ext false (Cell.s false 1 (List.length s.2) (cT s.2)), HO.ext false (Cell.s false 1 (List.length s.3) (cT s.3)), HO.ext false (Cell.s false 4 (List.length s.4) (cP s.4))])
noncomputable def fT2 (c : Cir) (s : Sht) (so k : Int) (qs : List (Int × Int × Int)) (rows : List (List Nat)) (os : List (Int × Int × Int)) (i : Nat) (r to : Int) : St := (St.mk [(17, SV.v (vi64 r)), (18, SV.v (vi64 to)), (16, SV.v (vi64 (gI c.5 i))), (15, SV.v (vi64 (↑i : Int))), (51, SV.v (vi64 (↑i : Int))), (50, SV.v (vi64 (↑(List.length c.5) : Int))), (49, SV.x 0 []), (14, SV.o 1), (12, SV.x 2 []), (10, SV.p 3 0), (5, SV.p 4 0), (7, SV.p 5 0), (2, SV.v (vi64 k))] [HO.ext false (Cell.s false 1 (List.length c.5) (cI c.5)), HO.rowc 76 3 os.length (Ct.fn (cQ os)), HO.ext false (Cell.s false 1 rows.length (cT rows)), HO.cells [SV.v (vi64 c.1), SV.v (vi64 c.2), SV.v (vi64 c.3), SV.x 6 [], SV.x 7 [], SV.x 8 [], SV.x 9 [], SV.x 10 [], SV.x 11 [], SV.x 12 [], SV.x 13 [], SV.v (vi64 so), SV.v (vi64 k), SV.o 14] 145, HO.cells [SV.v (vi64 c.1), SV.v (vi64 c.2), SV.v (vi64 c.3), SV.x 15 [], SV.x 0 [], SV.x 16 [], SV.x 17 []] 27, HO.cells [SV.x 18 [], SV.x 19 [], SV.x 20 [], SV.x 21 []] 49, HO.ext false (Cell.s false 7 (List.length c.4) (cN c.4)), HO.ext false (Cell.s false 1 (List.length c.5) (cI c.5)), HO.ext false (Cell.s false 2 (List.length c.6) (cL c.6)), HO.ext false (Cell.s false 2 (List.length c.7) (cK c.7)), HO.ext false (Cell.s false 1 (List.length s.1) (cT s.1)), HO.ext false (Cell.s false 1 (List.length s.2) (cT s.2)), HO.ext false (Cell.s false 1 (List.length s.3) (cT s.3)), HO.ext false (Cell.s false 4 (List.length s.4) (cP s.4)), HO.rowc 128 3 (List.length qs) (Ct.fn (cQ qs)), HO.ext false (Cell.s false 7 (List.length c.4) (cN c.4)), HO.ext false (Cell.s false 2 (List.length c.6) (cL c.6)), HO.ext false (Cell.s false 2 (List.length c.7) (cK c.7)), HO.ext false (Cell.s false 1 (List.length s.1) (cT s.1)), HO.ext false (Cell.s false 1 (List.length s.2) (cT s.2)), HO.ext false (Cell.s false 1 (List.length s.3) (cT s.3)), HO.ext false (Cell.s false 4 (List.length s.4) (cP s.4))])
noncomputable def fT3 (c : Cir) (s : Sht) (so k : Int) (qs : List (Int × Int × Int)) (rows : List (List Nat)) (os : List (Int × Int × Int)) (i : Nat) : St := (St.mk [(87, SV.v (vi64 (i : Int))), (86, SV.v (vi64 (↑(List.length c.6) : Int))), (85, SV.x 0 []), (14, SV.o 1), (12, SV.x 2 []), (10, SV.p 3 0), (5, SV.p 4 0), (7, SV.p 5 0)] [HO.ext false (Cell.s false 2 (List.length c.6) (cL c.6)), HO.rowc 76 3 os.length (Ct.fn (cQ os)), HO.ext false (Cell.s false 1 rows.length (cT rows)), HO.cells [SV.v (vi64 c.1), SV.v (vi64 c.2), SV.v (vi64 c.3), SV.x 6 [], SV.x 7 [], SV.x 8 [], SV.x 9 [], SV.x 10 [], SV.x 11 [], SV.x 12 [], SV.x 13 [], SV.v (vi64 so), SV.v (vi64 k), SV.o 14] 145, HO.cells [SV.v (vi64 c.1), SV.v (vi64 c.2), SV.v (vi64 c.3), SV.x 15 [], SV.x 16 [], SV.x 0 [], SV.x 17 []] 27, HO.cells [SV.x 18 [], SV.x 19 [], SV.x 20 [], SV.x 21 []] 49, HO.ext false (Cell.s false 7 (List.length c.4) (cN c.4)), HO.ext false (Cell.s false 1 (List.length c.5) (cI c.5)), HO.ext false (Cell.s false 2 (List.length c.6) (cL c.6)), HO.ext false (Cell.s false 2 (List.length c.7) (cK c.7)), HO.ext false (Cell.s false 1 (List.length s.1) (cT s.1)), HO.ext false (Cell.s false 1 (List.length s.2) (cT s.2)), HO.ext false (Cell.s false 1 (List.length s.3) (cT s.3)), HO.ext false (Cell.s false 4 (List.length s.4) (cP s.4)), HO.rowc 128 3 (List.length qs) (Ct.fn (cQ qs)), HO.ext false (Cell.s false 7 (List.length c.4) (cN c.4)), HO.ext false (Cell.s false 1 (List.length c.5) (cI c.5)), HO.ext false (Cell.s false 2 (List.length c.7) (cK c.7)), HO.ext false (Cell.s false 1 (List.length s.1) (cT s.1)), HO.ext false (Cell.s false 1 (List.length s.2) (cT s.2)), HO.ext false (Cell.s false 1 (List.length s.3) (cT s.3)), HO.ext false (Cell.s false 4 (List.length s.4) (cP s.4))])
noncomputable def fT4 (c : Cir) (s : Sht) (so k : Int) (qs : List (Int × Int × Int)) (rows : List (List Nat)) (os : List (Int × Int × Int)) (ls : List Int) (i j : Nat) : St := (St.mk [(96, SV.v (vi64 (j : Int))), (95, SV.v (vi64 (↑(List.length (ls)) : Int))), (94, SV.o 0), (19, SV.v (vi64 (↑i : Int))), (87, SV.v (vi64 (↑i : Int))), (86, SV.v (vi64 (↑(List.length c.6) : Int))), (85, SV.x 1 []), (14, SV.o 2), (12, SV.x 3 []), (10, SV.p 4 0), (5, SV.p 5 0), (7, SV.p 6 0)] [HO.rowc 3 1 (List.length (ls)) (Ct.fn (cI (ls))), HO.ext false (Cell.s false 2 (List.length c.6) (cL c.6)), HO.rowc 76 3 os.length (Ct.fn (cQ os)), HO.ext false (Cell.s false 1 rows.length (cT rows)), HO.cells [SV.v (vi64 c.1), SV.v (vi64 c.2), SV.v (vi64 c.3), SV.x 7 [], SV.x 8 [], SV.x 9 [], SV.x 10 [], SV.x 11 [], SV.x 12 [], SV.x 13 [], SV.x 14 [], SV.v (vi64 so), SV.v (vi64 k), SV.o 15] 145, HO.cells [SV.v (vi64 c.1), SV.v (vi64 c.2), SV.v (vi64 c.3), SV.x 16 [], SV.x 17 [], SV.x 1 [], SV.x 18 []] 27, HO.cells [SV.x 19 [], SV.x 20 [], SV.x 21 [], SV.x 22 []] 49, HO.ext false (Cell.s false 7 (List.length c.4) (cN c.4)), HO.ext false (Cell.s false 1 (List.length c.5) (cI c.5)), HO.ext false (Cell.s false 2 (List.length c.6) (cL c.6)), HO.ext false (Cell.s false 2 (List.length c.7) (cK c.7)), HO.ext false (Cell.s false 1 (List.length s.1) (cT s.1)), HO.ext false (Cell.s false 1 (List.length s.2) (cT s.2)), HO.ext false (Cell.s false 1 (List.length s.3) (cT s.3)), HO.ext false (Cell.s false 4 (List.length s.4) (cP s.4)), HO.rowc 128 3 (List.length qs) (Ct.fn (cQ qs)), HO.ext false (Cell.s false 7 (List.length c.4) (cN c.4)), HO.ext false (Cell.s false 1 (List.length c.5) (cI c.5)), HO.ext false (Cell.s false 2 (List.length c.7) (cK c.7)), HO.ext false (Cell.s false 1 (List.length s.1) (cT s.1)), HO.ext false (Cell.s false 1 (List.length s.2) (cT s.2)), HO.ext false (Cell.s false 1 (List.length s.3) (cT s.3)), HO.ext false (Cell.s false 4 (List.length s.4) (cP s.4))])
noncomputable def fT5 (c : Cir) (s : Sht) (so k : Int) (qs : List (Int × Int × Int)) (os : List (Int × Int × Int)) (i : Nat) : St := (St.mk [(111, SV.v (vi64 (i : Int))), (110, SV.v (vi64 (↑(List.length s.4) : Int))), (109, SV.x 0 []), (14, SV.o 1), (10, SV.p 2 0)] [HO.ext false (Cell.s false 4 (List.length s.4) (cP s.4)), HO.rowc 76 3 os.length (Ct.fn (cQ os)), HO.cells [SV.v (vi64 c.1), SV.v (vi64 c.2), SV.v (vi64 c.3), SV.x 3 [], SV.x 4 [], SV.x 5 [], SV.x 6 [], SV.x 7 [], SV.x 8 [], SV.x 9 [], SV.x 10 [], SV.v (vi64 so), SV.v (vi64 k), SV.o 11] 145, HO.ext false (Cell.s false 7 (List.length c.4) (cN c.4)), HO.ext false (Cell.s false 1 (List.length c.5) (cI c.5)), HO.ext false (Cell.s false 2 (List.length c.6) (cL c.6)), HO.ext false (Cell.s false 2 (List.length c.7) (cK c.7)), HO.ext false (Cell.s false 1 (List.length s.1) (cT s.1)), HO.ext false (Cell.s false 1 (List.length s.2) (cT s.2)), HO.ext false (Cell.s false 1 (List.length s.3) (cT s.3)), HO.ext false (Cell.s false 4 (List.length s.4) (cP s.4)), HO.rowc 128 3 (List.length qs) (Ct.fn (cQ qs))])
theorem fa5_loop (c : Cir) (hc : c.ok) (s : Sht) (hs : s.ok) (so k : Int) (qs : List (Int × Int × Int)) (fin : List (Int × Int × Int)) (hf : fin.length ≤ 100000) (Q : SV → List HO → Prop) (hq : Q (.tup [.o 0, .v (vi64 0)]) [.rowc 76 3 fin.length (.fn (cQ fin))]) (hcp : ∀ x ∈ s.cp, (0 ≤ x.1 ∧ x.1 < (c.eqs.length : Int)) ∧ (0 ≤ x.2.2.1 ∧ x.2.2.1 < (c.eqs.length : Int))) (hp : s.cp.length ≤ 256) (hk0 : 0 ≤ k) (hqs : qs.length ≤ 4000000000000) : ∀ (d i : Nat) (os : List (Int × Int × Int)), i + d = s.cp.length → fin = os ++ copF c s so (i : Int) (s.cp.drop i) →
    FOk Try.prog Try.f25 Q (.rnd [0,0,1,0,1,1,1,1,1,1,1,1] (d + 1) :: [.blk 10, .at [1, 1, 1, 1, 1, 1, 1, 1, 1]]) (fT5 c s so k qs os i)
  | 0, i, os, hd, he => by
    refine FOk.rnd (run_sound hm 60 ((fa5 c s so k qs [] 0 os os.length i 0 _ _).mpr ⟨?_⟩))
    rw [cond_dec, if_neg (by omega)]
    rw [show i = s.cp.length by omega, List.drop_length, copF, List.append_nil] at he
    rw [he] at hq
    exact hq
  | d + 1, i, os, hd, he => by
    have hi : i < s.cp.length := by omega
    obtain ⟨hx, hy⟩ := hcp _ (gP_mem hi)
    refine FOk.rnd (run_sound hm 60 ((fa5 c s so k qs [] 0 os os.length i (d + 1) _ _).mpr ⟨?_⟩))
    rw [cond_dec, if_pos (by omega), wrap_inc _ (by omega)]
    rw [drop_gP hi, copF, show (i : Int) + 1 = ((i + 1 : Nat) : Int) by omega] at he
    refine And.intro (fun _ => by omega) (And.intro (fun _ => by omega) (And.intro (fun _ => by omega) (lFk_mk c hc s hs so k hk0 qs hqs ⟨hx, lFk_mk c hc s hs so k hk0 qs hqs ⟨hy, ?_⟩⟩)))
    rw [cond_not]
    refine cond_intro (fun h => ?_) (fun h => ?_)
    · rw [h, cond_true, List.nil_append] at he
      exact fa5_loop c hc s hs so k qs fin hf Q hq hcp hp hk0 hqs d (i + 1) os (by omega) he
    · rw [h, cond_false, ← List.append_assoc] at he
      have hlen : os.length + 1 ≤ 100000 := by
        have := congrArg List.length he
        simp only [List.length_append, List.length_cons, List.length_nil] at this
        omega
      exact And.intro (fun _ => by omega) (FOk.cv (fa5_loop c hc s hs so k qs fin hf Q hq hcp hp hk0 hqs d (i + 1) (os ++ [((3 : Int), (i : Int), (0 : Int))]) (by omega) he) ⟨HE.refl _, ⟨rfl, rfl, (by rw [List.length_append]; rfl), cQ_snoc ((3 : Int), (i : Int), (0 : Int)) rfl⟩, HE.refl _, HE.refl _, HE.refl _, HE.refl _, HE.refl _, HE.refl _, HE.refl _, HE.refl _, HE.refl _, HE.refl _, trivial⟩)
theorem fa4_loop (c : Cir) (hc : c.ok) (s : Sht) (hs : s.ok) (so k : Int) (qs : List (Int × Int × Int)) (fin : List (Int × Int × Int)) (hf : fin.length ≤ 100000) (Q : SV → List HO → Prop) (hq : Q (.tup [.o 0, .v (vi64 0)]) [.rowc 76 3 fin.length (.fn (cQ fin))]) (rows : List (List Nat)) (ls : List Int) (hl : ls.length ≤ 100000) (rest : List (Int × Int × Int)) (i M : Nat) (hi : i ≤ 100000) (next : ∀ os, fin = os ++ rest → FOk Try.prog Try.f25 Q (.rnd [0,0,1,0,1,1,1,1,1,1,1] M :: [.blk 6, .at [1, 1, 1, 1, 1, 1, 1, 1]]) (fT3 c s so k qs rows os (i + 1))) : ∀ (d j : Nat) (os : List (Int × Int × Int)), j + d = ls.length → fin = os ++ ((ls.drop j).map (fun r => ((2 : Int), (i : Int), r)) ++ rest) →
    FOk Try.prog Try.f25 Q (.rnd [0,0,1,1,0,0,1,1,0,0,1,0,1,1,1,1,1,1,1] (d + 1) :: [.blk 8, .blk 7, .at [1, 1, 1, 0, 0, 1, 0, 1, 1, 1, 1, 1, 1, 1], .rnd [0, 0, 1, 0, 1, 1, 1, 1, 1, 1, 1] M, .blk 6, .at [1, 1, 1, 1, 1, 1, 1, 1]]) (fT4 c s so k qs rows os ls i j)
  | 0, j, os, hd, he => by
    refine FOk.rnd (run_sound hm 60 ((fa4 c s so k qs rows rows.length os os.length ls i j M 0 _ _).mpr ⟨?_⟩))
    rw [cond_dec, if_neg (by omega), wrap_inc _ (by omega)]
    rw [show j = ls.length by omega, List.drop_length, List.map_nil, List.nil_append] at he
    exact next os he
  | d + 1, j, os, hd, he => by
    have hj : j < ls.length := by omega
    rw [drop_gI hj, List.map_cons, List.cons_append, ← List.singleton_append, ← List.append_assoc] at he
    have hlen : os.length + 1 ≤ 100000 := by
      have := congrArg List.length he
      simp only [List.length_append, List.length_cons, List.length_nil] at this
      omega
    refine FOk.rnd (run_sound hm 60 ((fa4 c s so k qs rows rows.length os os.length ls i j M (d + 1) _ _).mpr ⟨?_⟩))
    rw [cond_dec, if_pos (by omega), wrap_inc j (by omega)]
    exact And.intro (fun _ => by omega) (And.intro (fun _ => by omega) (And.intro (fun _ => by omega) (FOk.cv (fa4_loop c hc s hs so k qs fin hf Q hq rows ls hl rest i M hi next d (j + 1) (os ++ [((2 : Int), (i : Int), gI ls j)]) (by omega) he) ⟨HE.refl _, HE.refl _, ⟨rfl, rfl, (by rw [List.length_append]; rfl), cQ_snoc ((2 : Int), (i : Int), gI ls j) rfl⟩, HE.refl _, HE.refl _, HE.refl _, HE.refl _, HE.refl _, HE.refl _, HE.refl _, HE.refl _, HE.refl _, HE.refl _, HE.refl _, HE.refl _, HE.refl _, HE.refl _, HE.refl _, HE.refl _, HE.refl _, HE.refl _, HE.refl _, HE.refl _, trivial⟩)))
theorem fa3_loop (c : Cir) (hc : c.ok) (s : Sht) (hs : s.ok) (so k : Int) (qs : List (Int × Int × Int)) (fin : List (Int × Int × Int)) (hf : fin.length ≤ 100000) (Q : SV → List HO → Prop) (hq : Q (.tup [.o 0, .v (vi64 0)]) [.rowc 76 3 fin.length (.fn (cQ fin))]) (hcp : ∀ x ∈ s.cp, (0 ≤ x.1 ∧ x.1 < (c.eqs.length : Int)) ∧ (0 ≤ x.2.2.1 ∧ x.2.2.1 < (c.eqs.length : Int))) (hp : s.cp.length ≤ 256) (hk0 : 0 ≤ k) (hqs : qs.length ≤ 4000000000000) (rows : List (List Nat)) (hr : rows.length ≤ 4000) (hlk : ∀ l ∈ c.looks, l.1.length ≤ 4 ∧ l.2.length ≤ 4 ∧ (∀ g ∈ l.1, 0 ≤ g ∧ g < (c.nodes.length : Int)) ∧ ∀ g ∈ l.2, 0 ≤ g ∧ g < (c.nodes.length : Int)) (hrl : ∀ r ∈ rows, r.length = c.nodes.length) (hln : c.looks.length ≤ 4) : ∀ (d i : Nat) (os : List (Int × Int × Int)), i + d = c.looks.length → fin = os ++ (looksF rows (i : Int) (c.looks.drop i) ++ copF c s so 0 s.cp) →
    FOk Try.prog Try.f25 Q (.rnd [0,0,1,0,1,1,1,1,1,1,1] (d + 1) :: [.blk 6, .at [1, 1, 1, 1, 1, 1, 1, 1]]) (fT3 c s so k qs rows os i)
  | 0, i, os, hd, he => by
    refine FOk.rnd (run_sound hm 60 ((fa3 c s so k qs rows rows.length os os.length i 0 _ _).mpr ⟨?_⟩))
    rw [cond_dec, if_neg (by omega)]
    rw [show i = c.looks.length by omega, List.drop_length, looksF, List.nil_append] at he
    exact FOk.loop (s.cp.length + 1) (by kernel_rfl) (fa5_loop c hc s hs so k qs fin hf Q hq hcp hp hk0 hqs s.cp.length 0 os (by omega) he)
  | d + 1, i, os, hd, he => by
    have hi : i < c.looks.length := by omega
    obtain ⟨l1, l2, g1, g2⟩ := hlk _ (gL_mem hi)
    rw [drop_gL hi, looksF, show (i : Int) + 1 = ((i + 1 : Nat) : Int) by omega, List.append_assoc] at he
    have hml := missT_len (keysT rows (gL c.looks i).2) (gL c.looks i).1 rows 0
    refine FOk.rnd (run_sound hm 60 ((fa3 c s so k qs rows rows.length os os.length i (d + 1) _ _).mpr ⟨?_⟩))
    rw [cond_dec, if_pos (by omega)]
    refine And.intro (fun _ => by omega) (And.intro (fun _ => by omega) (And.intro (fun _ => by omega) (And.intro (fun _ => by omega) (And.intro (fun _ => by omega) (⟨⟨rows, (gL c.looks i).1, (gL c.looks i).2, ⟨rfl, IsC.refl _ _ _⟩, ⟨rfl, IsC.refl _ _ _⟩, ⟨rfl, IsC.refl _ _ _⟩, by omega, l1, l2, fun r hr2 => ⟨fun g hg => by rw [hrl r hr2]; exact g1 g hg, fun g hg => by rw [hrl r hr2]; exact g2 g hg⟩, ?_⟩⟩)))))
    exact FOk.loop ((lookV rows (gL c.looks i).1 (gL c.looks i).2).length + 1) (by kernel_rfl) (fa4_loop c hc s hs so k qs fin hf Q hq rows (lookV rows (gL c.looks i).1 (gL c.looks i).2) (by rw [lookV]; omega) _ i (d + 1) (by omega) (fun os2 he2 => fa3_loop c hc s hs so k qs fin hf Q hq hcp hp hk0 hqs rows hr hlk hrl hln d (i + 1) os2 (by omega) he2) (lookV rows (gL c.looks i).1 (gL c.looks i).2).length 0 os (by omega) he)
theorem fa2_loop (c : Cir) (hc : c.ok) (s : Sht) (hs : s.ok) (so k : Int) (qs : List (Int × Int × Int)) (fin : List (Int × Int × Int)) (hf : fin.length ≤ 100000) (Q : SV → List HO → Prop) (hq : Q (.tup [.o 0, .v (vi64 0)]) [.rowc 76 3 fin.length (.fn (cQ fin))]) (rows : List (List Nat)) (hr : rows.length ≤ 4000) (i : Nat) (hi : i < c.gates.length) (hi2 : i ≤ 100000) (hg : ∀ r ∈ rows, 0 ≤ gI c.gates i ∧ gI c.gates i < (r.length : Int)) (rest : List (Int × Int × Int)) (M : Nat) (to : Int) (hto : to ≤ (rows.length : Int)) (next : ∀ os, fin = os ++ rest → FOk Try.prog Try.f25 Q (.rnd [0,0,1,0,1,1,1,1,1,1] M :: [.blk 2, .at [1, 1, 1, 1, 1, 1, 1]]) (fT1 c s so k qs rows os (i + 1))) : ∀ (d : Nat) (r : Int) (os : List (Int × Int × Int)), 0 ≤ r → (to - r).toNat = d → fin = os ++ (gateR rows (gI c.gates i) (i : Int) d r ++ rest) →
    FOk Try.prog Try.f25 Q (.rnd [0,0,1,1,0,0,1,1,0,0,1,0,1,1,1,1,1,1] (d + 1) :: [.blk 4, .blk 3, .at [1, 1, 1, 0, 0, 1, 0, 1, 1, 1, 1, 1, 1], .rnd [0, 0, 1, 0, 1, 1, 1, 1, 1, 1] M, .blk 2, .at [1, 1, 1, 1, 1, 1, 1]]) (fT2 c s so k qs rows os i r to)
  | 0, r, os, h0, hd, he => by
    refine FOk.rnd (run_sound hm 60 ((fa2 c s so k qs rows rows.length os os.length i M 0 r to _ _).mpr ⟨?_⟩))
    rw [cond_dec, if_neg (by omega), wrap_inc _ (by omega)]
    rw [gateR, List.nil_append] at he
    exact next os he
  | d + 1, r, os, h0, hd, he => by
    rw [gateR] at he
    have hgr := hg _ (gT_mem (show r.toNat < rows.length by omega))
    refine FOk.rnd (run_sound hm 60 ((fa2 c s so k qs rows rows.length os os.length i M (d + 1) r to _ _).mpr ⟨?_⟩))
    rw [cond_dec, if_pos (by omega), wrap_in (r + 1) (by omega)]
    refine And.intro (fun _ => by omega) (And.intro (fun _ => by omega) (And.intro (fun _ => by omega) (And.intro (fun _ => by omega) (And.intro (fun _ => by omega) (And.intro (fun _ => by omega) (?_))))))
    rw [cond_not]
    refine cond_intro (fun h => ?_) (fun h => ?_)
    · rw [h, cond_true, List.nil_append] at he
      exact fa2_loop c hc s hs so k qs fin hf Q hq rows hr i hi hi2 hg rest M to hto next d (r + 1) os (by omega) (by omega) he
    · rw [h, cond_false, List.append_assoc, ← List.append_assoc] at he
      have hlen : os.length + 1 ≤ 100000 := by
        have := congrArg List.length he
        simp only [List.length_append, List.length_cons, List.length_nil] at this
        omega
      exact And.intro (fun _ => by omega) (FOk.cv (fa2_loop c hc s hs so k qs fin hf Q hq rows hr i hi hi2 hg rest M to hto next d (r + 1) (os ++ [((1 : Int), (i : Int), r)]) (by omega) (by omega) he) ⟨HE.refl _, ⟨rfl, rfl, (by rw [List.length_append]; rfl), cQ_snoc ((1 : Int), (i : Int), r) rfl⟩, HE.refl _, HE.refl _, HE.refl _, HE.refl _, HE.refl _, HE.refl _, HE.refl _, HE.refl _, HE.refl _, HE.refl _, HE.refl _, HE.refl _, HE.refl _, HE.refl _, HE.refl _, HE.refl _, HE.refl _, HE.refl _, HE.refl _, HE.refl _, trivial⟩)
theorem fa1_loop (c : Cir) (hc : c.ok) (s : Sht) (hs : s.ok) (so k : Int) (qs : List (Int × Int × Int)) (fin : List (Int × Int × Int)) (hf : fin.length ≤ 100000) (Q : SV → List HO → Prop) (hq : Q (.tup [.o 0, .v (vi64 0)]) [.rowc 76 3 fin.length (.fn (cQ fin))]) (hcp : ∀ x ∈ s.cp, (0 ≤ x.1 ∧ x.1 < (c.eqs.length : Int)) ∧ (0 ≤ x.2.2.1 ∧ x.2.2.1 < (c.eqs.length : Int))) (hp : s.cp.length ≤ 256) (hk0 : 0 ≤ k) (hqs : qs.length ≤ 4000000000000) (rows : List (List Nat)) (hr : rows.length ≤ 4000) (hlk : ∀ l ∈ c.looks, l.1.length ≤ 4 ∧ l.2.length ≤ 4 ∧ (∀ g ∈ l.1, 0 ≤ g ∧ g < (c.nodes.length : Int)) ∧ ∀ g ∈ l.2, 0 ≤ g ∧ g < (c.nodes.length : Int)) (hrl : ∀ r ∈ rows, r.length = c.nodes.length) (hln : c.looks.length ≤ 4) (h0 : chkC c = 0) (hk5 : k ≤ 5) (hru : (rows.length : Int) = usN k) : ∀ (d i : Nat) (os : List (Int × Int × Int)), i + d = c.gates.length → fin = os ++ (gatesF c k rows (i : Int) (c.gates.drop i) ++ (looksF rows 0 c.looks ++ copF c s so 0 s.cp)) →
    FOk Try.prog Try.f25 Q (.rnd [0,0,1,0,1,1,1,1,1,1] (d + 1) :: [.blk 2, .at [1, 1, 1, 1, 1, 1, 1]]) (fT1 c s so k qs rows os i)
  | 0, i, os, hd, he => by
    refine FOk.rnd (run_sound hm 60 ((fa1 c s so k qs rows rows.length os os.length i 0 _ _).mpr ⟨?_⟩))
    rw [cond_dec, if_neg (by omega)]
    rw [show i = c.gates.length by omega, List.drop_length, gatesF, List.nil_append] at he
    exact FOk.loop (c.looks.length + 1) (by kernel_rfl) (fa3_loop c hc s hs so k qs fin hf Q hq hcp hp hk0 hqs rows hr hlk hrl hln c.looks.length 0 os (by omega) he)
  | d + 1, i, os, hd, he => by
    have hi : i < c.gates.length := by omega
    have hin := gates_in h0 _ (gI_mem hi)
    have hl := chkC_len h0
    have hb := rows_bnd (x := gI c.gates i) h0 (show k ≤ 10 by omega)
    rw [drop_gI hi, gatesF, show (i : Int) + 1 = ((i + 1 : Nat) : Int) by omega, List.append_assoc] at he
    refine FOk.rnd (run_sound hm 60 ((fa1 c s so k qs rows rows.length os os.length i (d + 1) _ _).mpr ⟨?_⟩))
    rw [cond_dec, if_pos (by omega)]
    refine And.intro (fun _ => by omega) (And.intro (fun _ => by omega) (lC_mk c hc ?_))
    exact FOk.loop (((rowsV c k (gI c.gates i)).2 - (rowsV c k (gI c.gates i)).1).toNat + 1) (by kernel_rfl) (fa2_loop c hc s hs so k qs fin hf Q hq rows hr i hi (by omega) (fun r hr2 => by rw [hrl r hr2]; exact hin) _ (d + 1) _ (by omega) (fun os2 he2 => fa1_loop c hc s hs so k qs fin hf Q hq hcp hp hk0 hqs rows hr hlk hrl hln h0 hk5 hru d (i + 1) os2 (by omega) he2) _ _ os hb.1 rfl he)
theorem fa0_loop (c : Cir) (hc : c.ok) (s : Sht) (hs : s.ok) (so k : Int) (qs : List (Int × Int × Int)) (fin : List (Int × Int × Int)) (hf : fin.length ≤ 100000) (Q : SV → List HO → Prop) (hq : Q (.tup [.o 0, .v (vi64 0)]) [.rowc 76 3 fin.length (.fn (cQ fin))]) (hcp : ∀ x ∈ s.cp, (0 ≤ x.1 ∧ x.1 < (c.eqs.length : Int)) ∧ (0 ≤ x.2.2.1 ∧ x.2.2.1 < (c.eqs.length : Int))) (hp : s.cp.length ≤ 256) (hk0 : 0 ≤ k) (hqs : qs.length ≤ 4000000000000) (h0 : chkC c = 0) (hso : fE so = 0) (hk5 : k ≤ 5) (he : fin = fltV c s so k) (hqq : qs = qsN [] c.nodes) : ∀ (d i : Nat) (rows : List (List Nat)), i + d = (usN k).toNat → rows = rowsA c s so k i →
    FOk Try.prog Try.f25 Q (.rnd [0,0,1,0,1,1,1,1] (d + 1) :: [.blk 0, .at [1, 1, 1, 1, 1]]) (fT0 c s so k qs rows (usN k) i)
  | 0, i, rows, hd, hrw => by
    have hu := usN_le hk5
    have hl := chkC_len h0
    have hrl : rows.length = (usN k).toNat := by rw [hrw, rowsA_ok]; omega
    refine FOk.rnd (run_sound hm 60 ((fa0 c s so k qs rows rows.length (usN k) i 0 _ _).mpr ⟨?_⟩))
    rw [cond_dec, if_neg (by omega)]
    refine FOk.frz 2 rfl (FOk.norm (ks := [51,50,49,14,12,10,5,7,2]) (nl := []) (st' := (St.mk [(51, SV.v (vi64 (0 : Int))), (50, SV.v (vi64 (↑(List.length c.5) : Int))), (49, SV.x 0 []), (14, SV.o 1), (12, SV.x 2 []), (10, SV.p 3 0), (5, SV.p 4 0), (7, SV.p 5 0), (2, SV.v (vi64 k))] [HO.ext false (Cell.s false 1 (List.length c.5) (cI c.5)), HO.rowc 76 3 0 (Ct.lit 1 []), HO.ext false (Cell.s false 1 rows.length (cT rows)), HO.cells [SV.v (vi64 c.1), SV.v (vi64 c.2), SV.v (vi64 c.3), SV.x 6 [], SV.x 7 [], SV.x 8 [], SV.x 9 [], SV.x 10 [], SV.x 11 [], SV.x 12 [], SV.x 13 [], SV.v (vi64 so), SV.v (vi64 k), SV.o 14] 145, HO.cells [SV.v (vi64 c.1), SV.v (vi64 c.2), SV.v (vi64 c.3), SV.x 15 [], SV.x 0 [], SV.x 16 [], SV.x 17 []] 27, HO.cells [SV.x 18 [], SV.x 19 [], SV.x 20 [], SV.x 21 []] 49, HO.ext false (Cell.s false 7 (List.length c.4) (cN c.4)), HO.ext false (Cell.s false 1 (List.length c.5) (cI c.5)), HO.ext false (Cell.s false 2 (List.length c.6) (cL c.6)), HO.ext false (Cell.s false 2 (List.length c.7) (cK c.7)), HO.ext false (Cell.s false 1 (List.length s.1) (cT s.1)), HO.ext false (Cell.s false 1 (List.length s.2) (cT s.2)), HO.ext false (Cell.s false 1 (List.length s.3) (cT s.3)), HO.ext false (Cell.s false 4 (List.length s.4) (cP s.4)), HO.rowc 128 3 (List.length qs) (Ct.fn (cQ qs)), HO.ext false (Cell.s false 7 (List.length c.4) (cN c.4)), HO.ext false (Cell.s false 2 (List.length c.6) (cL c.6)), HO.ext false (Cell.s false 2 (List.length c.7) (cK c.7)), HO.ext false (Cell.s false 1 (List.length s.1) (cT s.1)), HO.ext false (Cell.s false 1 (List.length s.2) (cT s.2)), HO.ext false (Cell.s false 1 (List.length s.3) (cT s.3)), HO.ext false (Cell.s false 4 (List.length s.4) (cP s.4))])) (by kernel_rfl) ?_)
    exact FOk.loop (c.gates.length + 1) (by kernel_rfl) (FOk.cv (fa1_loop c hc s hs so k qs fin hf Q hq hcp hp hk0 hqs rows (by omega) (looks_in h0) (by rw [hrw]; exact rowsA_mem h0 s hso) hl.2.2.1 h0 hk5 (by omega) c.gates.length 0 [] (by omega) (by rw [he, fltV, hrw, show i = (usN k).toNat by omega]; rfl)) ⟨HE.refl _, ⟨rfl, rfl, rfl, fun k hk => by simp at hk⟩, HE.refl _, HE.refl _, HE.refl _, HE.refl _, HE.refl _, HE.refl _, HE.refl _, HE.refl _, HE.refl _, HE.refl _, HE.refl _, HE.refl _, HE.refl _, HE.refl _, HE.refl _, HE.refl _, HE.refl _, HE.refl _, HE.refl _, HE.refl _, trivial⟩)
  | d + 1, i, rows, hd, hrw => by
    have hu := usN_le hk5
    have hrl : rows.length = i := by rw [hrw, rowsA_ok]
    have hn := hc.n.2
    refine FOk.rnd (run_sound hm 60 ((fa0 c s so k qs rows rows.length (usN k) i (d + 1) _ _).mpr ⟨?_⟩))
    rw [cond_dec, if_pos (by omega), wrap_inc _ (by omega)]
    refine lFk_mk c hc s hs so k hk0 qs hqs (And.intro (fun _ => by omega) ?_)
    exact FOk.cv (fa0_loop c hc s hs so k qs fin hf Q hq hcp hp hk0 hqs h0 hso hk5 he hqq d (i + 1) (rows ++ [rowV c s so k qs (i : Int)]) (by omega) (by rw [hrw, hqq, rowsA_succ])) ⟨⟨rfl, rfl, (by rw [List.length_append]; rfl), cT_snoc _ rfl⟩, HE.refl _, HE.refl _, HE.refl _, HE.refl _, HE.refl _, HE.refl _, HE.refl _, HE.refl _, HE.refl _, HE.refl _, HE.refl _, HE.refl _, HE.refl _, HE.refl _, HE.refl _, HE.refl _, HE.refl _, HE.refl _, HE.refl _, HE.refl _, trivial⟩
theorem bFlt : Try.f25.body.isSome = true := by kernel_rfl
theorem nFlt (c : Cir) (so k : Int) : Nat.ble ([.v (.int .i64 so), .agg [.v (.int .i64 c.fx), .v (.int .i64 c.ad), .v (.int .i64 c.ins), .x 0 [], .x 1 [], .x 2 [], .x 3 []], .v (.int .i64 k), .agg [.x 4 [], .x 5 [], .x 6 [], .x 7 []]] : List SV).length Try.f25.ntmps = true := by kernel_rfl
theorem flt_ok (c : Cir) (hc : c.ok) (s : Sht) (hs : s.ok) (so k : Int) (Q : SV → List HO → Prop) (hq : Q (.tup [.o 0, .v (.int .i64 (fltR c s so k).2)]) [.rowc 76 3 (fltR c s so k).1.length (.fn (cQ (fltR c s so k).1))]) : FnOk Try.prog 25 [.v (.int .i64 so), .agg [.v (.int .i64 c.fx), .v (.int .i64 c.ad), .v (.int .i64 c.ins), .x 0 [], .x 1 [], .x 2 [], .x 3 []], .v (.int .i64 k), .agg [.x 4 [], .x 5 [], .x 6 [], .x 7 []]] [.ext false (.s false 7 c.nodes.length (cN c.nodes)), .ext false (.s false 1 c.gates.length (cI c.gates)), .ext false (.s false 2 c.looks.length (cL c.looks)), .ext false (.s false 2 c.eqs.length (cK c.eqs)), .ext false (.s false 1 s.fx.length (cT s.fx)), .ext false (.s false 1 s.ad.length (cT s.ad)), .ext false (.s false 1 s.is.length (cT s.is)), .ext false (.s false 4 s.cp.length (cP s.cp))] Q := by
  refine FnOk.mono (FnOk.eqv (r0 := .tup [.o 0, .v (.int .i64 (fltR c s so k).2)]) (h0 := [.rowc 76 3 (fltR c s so k).1.length (.fn (cQ (fltR c s so k).1))]) ?_) (fun r h' hh => by rw [hh.1, hh.2]; exact hq)
  refine FnOk.nilT 76 3 (fn_of_ok Try.func25 bFlt ?_ ?_)
  · exact nFlt c so k
  refine run_sound hm 60 ((fltS c s so k _ _).mpr ⟨?_⟩)
  have bad : ∀ e : Int, fltR c s so k = ([], e) → (fun r h' => (r = SV.tup [.o 0, .v (.int .i64 (fltR c s so k).2)] ∧ HEs h' [.rowc 76 3 (fltR c s so k).1.length (.fn (cQ (fltR c s so k).1))]) ∨ (∃ y, r = .tup [.v (.slice none 0 0), .v y] ∧ h' = [] ∧ (SV.tup [.o 0, .v y] = SV.tup [.o 0, .v (.int .i64 (fltR c s so k).2)] ∧ HEs [HO.rowc 76 3 0 (.lit 1 [])] [.rowc 76 3 (fltR c s so k).1.length (.fn (cQ (fltR c s so k).1))]))) (SV.tup [SV.v (Value.slice none 0 0), SV.v (vi64 e)]) [] := fun e he => by
    rw [he]
    exact .inr ⟨_, rfl, rfl, rfl, ⟨rfl, rfl, rfl, fun k hk => by omega⟩, trivial⟩
  rw [cond_not, cond_beq]
  refine And.intro (fun _ => by omega) (ite_intro (fun h0 => ?_) (fun h0 => ?_))
  · refine lF_mk c hc s hs ?_
    rw [cond_not, cond_beq]
    refine ite_intro (fun h1 => ?_) (fun h1 => ?_)
    · obtain ⟨hk0, hk3, hk5, _⟩ := fitV_zero h1
      obtain ⟨hp, hcp⟩ := cps_in h1
      have hl := chkC_len hk0
      have hl2 := qsN_len c.nodes []
      rw [List.length_nil] at hl2
      refine ⟨c.nodes, rfl, IsC.refl _ _ _, by omega, ?_⟩
      have e : fltR c s so k = (fltV c s so k, 0) := by rw [fltR, if_neg (fun h => h h0), if_neg (fun h => h h1)]
      rw [e]
      exact FOk.loop ((usN k).toNat + 1) (by kernel_rfl) (FOk.cv (fa0_loop c hc s hs so k (qsN [] c.nodes) (fltV c s so k) (fltV_len hk0 hk5 hp) _ (.inl ⟨rfl, HEs.refl _⟩) hcp hp (by omega) (by omega) hk0 h0 hk5 rfl rfl (usN k).toNat 0 [] (by omega) rfl) ⟨⟨rfl, rfl, rfl, fun k hk => by simp at hk⟩, HE.refl _, HE.refl _, HE.refl _, HE.refl _, HE.refl _, HE.refl _, HE.refl _, HE.refl _, HE.refl _, HE.refl _, HE.refl _, HE.refl _, HE.refl _, HE.refl _, HE.refl _, HE.refl _, HE.refl _, HE.refl _, HE.refl _, HE.refl _, trivial⟩)
    · rw [cond_not, cond_beq, if_neg h1]
      exact bad _ (by rw [fltR, if_neg (fun h => h h0), if_pos h1])
  · rw [cond_not, cond_beq, if_neg h0]
    exact bad _ (by rw [fltR, if_pos h0])
noncomputable def gFlt : List SV → List HO → Option ((SV → List HO → Prop) → Prop)
  | [.v (.int .i64 so), .agg [.v (.int .i64 fx), .v (.int .i64 ad), .v (.int .i64 ins), .x 0 [], .x 1 [], .x 2 [], .x 3 []], .v (.int .i64 k), .agg [.x 4 [], .x 5 [], .x 6 [], .x 7 []]], [.ext false (.s false 7 n0 c0), .ext false (.s false 1 n1 c1), .ext false (.s false 2 n2 c2), .ext false (.s false 2 n3 c3), .ext false (.s false 1 m0 d0), .ext false (.s false 1 m1 d1), .ext false (.s false 1 m2 d2), .ext false (.s false 4 m3 d3)] =>
    some fun Q => lF fx ad ins n0 n1 n2 n3 m0 m1 m2 m3 c0 c1 c2 c3 d0 d1 d2 d3 fun c s => Q (.tup [.o 0, .v (.int .i64 (fltR c s so k).2)]) [.rowc 76 3 (fltR c s so k).1.length (.fn (cQ (fltR c s so k).1))]
  | _, _ => none
theorem gFlt_ok (args : List SV) (h : List HO) (tr : (SV → List HO → Prop) → Prop) (Q : SV → List HO → Prop) (hc : gFlt args h = some tr) (ht : tr Q) : FnOk Try.prog 25 args h Q := by
  unfold gFlt at hc
  split at hc
  · simp only [Option.some.injEq] at hc
    subst hc
    obtain ⟨c, rfl, rfl, rfl, ⟨rfl, e0⟩, ⟨rfl, e1⟩, ⟨rfl, e2⟩, ⟨rfl, e3⟩, hk, ht2⟩ := ht.h.h
    obtain ⟨s, ⟨rfl, e4⟩, ⟨rfl, e5⟩, ⟨rfl, e6⟩, ⟨rfl, e7⟩, hs, hq⟩ := ht2.h
    exact FnOk.ac (flt_ok c hk s hs _ _ Q hq) ⟨⟨rfl, rfl, rfl, rfl, e0⟩, ⟨rfl, rfl, rfl, rfl, e1⟩, ⟨rfl, rfl, rfl, rfl, e2⟩, ⟨rfl, rfl, rfl, rfl, e3⟩, ⟨rfl, rfl, rfl, rfl, e4⟩, ⟨rfl, rfl, rfl, rfl, e5⟩, ⟨rfl, rfl, rfl, rfl, e6⟩, ⟨rfl, rfl, rfl, rfl, e7⟩, trivial⟩
  · cases hc
noncomputable def K80 : Con Try.prog := K79.add 25 gFlt gFlt_ok
end Go.Proofs.Ytlmjdcbhpffanaa
/- An argument that is a nil slice, told as an empty frozen memory. -/
namespace Go.Sx
open Go.RowKit
theorem FnOk.nilX {P : Program} {f : FuncId} {args args' : List SV} {h : List HO} {Q : SV → List HO → Prop} (sz : Nat) (c : Nat → Nat → Cell) (hw : wsL (h.length + 1) args')
    (hd : ∀ e e0 : Env, e.val h.length [] = .slice none 0 0 → agree h.length e0 e → denL e args' = denL e0 args)
    (k : FnOk P f args' (h ++ [.ext false (.s false sz 0 c)]) Q) : FnOk P f args h Q := by
  intro F hF w0 e hm S hws
  have S2 := S.newExt hF false (.s false sz 0 c) (fun _ => .slice none 0 0) (fun _ => rfl) ⟨none, ⟨0, rfl, Nat.le_refl _⟩, .inl rfl⟩
  have hk := k F hF w0 _ hm S2 (by rw [List.length_append]; exact hw)
  have hv := hd (e.setV h.length (fun _ => .slice none 0 0) (fun _ => rfl)) e (by simp [Env.setV]) (agree_setV e h.length _ _)
  rw [← hv]
  exact hk
end Go.Sx
/- A row of one's own is given up; what refers to it in other objects is told anew. -/
namespace Go.Sx
open Go.RowKit
def frzO (i n : Nat) : HO → HO
  | .cells xs T => .cells (frzL i n xs) T
  | .row T sz k xs => .row T sz k (frzL i n xs)
  | x => x
theorem FOk.frzH {P : Program} {m : Nat} {fn : Func} {Q : SV → List HO → Prop} {k : List It} {tm : List (Nat × SV)} {h : List HO} (i : Nat) {T : TypeId} {sz n : Nat} {c : Ct} (hi : h[i]? = some (.rowc T sz n c))
    (hk : FOkM P m fn Q k ⟨frzT i h.length tm, (h.set i .gone ++ [HO.ext false (Cell.s false sz n c.at)]).map (frzO i h.length)⟩) : FOkM P m fn Q k ⟨tm, h⟩ := by
  intro F hF w0 hw0 e a w S T0
  have hlt := (List.getElem?_eq_some_iff.1 hi).1
  obtain ⟨S1, hle⟩ := S.drop hF i hlt
  obtain ⟨vals, h1, _, h2⟩ := S.sat i _ hi
  obtain ⟨f, f1, f2, f3⟩ := S.frozen hi rfl h1 hle h2
  have S2 := S1.newExt hF false (.s false sz n c.at) f f1 (by simpa using f3)
  rw [List.length_set] at S2
  have hag := agree_setV e h.length f f1
  have hv : (e.setV h.length f f1).val h.length [] = (e.setV h.length f f1).row i := by
    have : (e.setV h.length f f1).val h.length = f := by simp [Env.setV]
    rw [this, f2]; rfl
  have hl : (h.set i HO.gone ++ [HO.ext false (.s false sz n c.at)]).length = h.length + 1 := by simp
  have S3 := S2.conv hF (h' := (h.set i HO.gone ++ [HO.ext false (.s false sz n c.at)]).map (frzO i h.length)) (by rw [List.length_map]) (fun j x' hx' => by
    rw [List.getElem?_map] at hx'
    obtain ⟨x, hx, rfl⟩ := Option.map_eq_some_iff.1 hx'
    refine ⟨x, hx, ?_, ?_, ?_⟩
    · cases x <;> rfl
    · cases x with
      | cells xs T => intro hs; simp only [frzO, HO.sat, denL_frz i _ _ hv] at hs ⊢; exact hs
      | row T sz k xs => intro hs; simp only [frzO, HO.sat, denL_frz i _ _ hv] at hs ⊢; exact hs
      | _ => exact fun hs => hs
    · cases x with
      | cells xs T => exact fun hs => wsL_frz i h.length _ (by rw [hl]; exact Nat.lt_succ_self _) xs hs
      | row T sz k xs => exact fun hs => wsL_frz i h.length _ (by rw [hl]; exact Nat.lt_succ_self _) xs hs
      | _ => exact fun hs => hs)
  refine hk F hF w0 hw0 _ a w S3 ⟨T0.size, T0.defers, fun t s hs => ?_, fun t s hs => ?_⟩
  · obtain ⟨s0, q1, rfl⟩ := lk_frzT i _ tm hs
    rw [den_frz i _ _ hv, T0.get t s0 q1, den_agree hag s0 (T0.wsc t s0 q1)]
  · obtain ⟨s0, q1, rfl⟩ := lk_frzT i _ tm hs
    show ws ((h.set i HO.gone ++ [HO.ext false (.s false sz n c.at)]).map (frzO i h.length)).length _
    rw [List.length_map, hl]
    exact ws_frz i _ _ (Nat.lt_succ_self _) s0 (ws_mono (Nat.le_succ _) s0 (T0.wsc t s0 q1))
/-- A nil slice in a slot, told as empty frozen memory. -/
theorem FOk.nilA {P : Program} {m : Nat} {fn : Func} {Q : SV → List HO → Prop} {k : List It} {tm : List (Nat × SV)} {h : List HO} (t j sz : Nat) (c : Nat → Nat → Cell) {cs : List SV} (ht : lk tm t = some (.agg cs)) (hj : cs[j]? = some (.v (.slice none 0 0)))
    (hk : FOkM P m fn Q k ⟨(t, .agg (cs.set j (.x h.length []))) :: del tm t, h ++ [HO.ext false (Cell.s false sz 0 c)]⟩) : FOkM P m fn Q k ⟨tm, h⟩ := by
  intro F hF w0 hw0 e a w S T0
  have S2 := S.newExt hF false (.s false sz 0 c) (fun _ => .slice none 0 0) (fun _ => rfl) ⟨none, ⟨0, rfl, Nat.le_refl _⟩, .inl rfl⟩
  have hag := agree_setV e h.length (fun _ => .slice none 0 0) (fun _ => rfl)
  have hl : (h ++ [HO.ext false (Cell.s false sz 0 c)]).length = h.length + 1 := by simp
  have hws : wsL h.length cs := T0.wsc t _ ht
  have hden : ∀ (l : List SV) (j : Nat), l[j]? = some (.v (.slice none 0 0)) → wsL h.length l → denL (e.setV h.length (fun _ => .slice none 0 0) (fun _ => rfl)) (l.set j (.x h.length [])) = denL e l := by
    intro l
    induction l with
    | nil => intro j hj _; cases hj
    | cons x r ih =>
      intro j hj hw
      cases j with
      | zero =>
        simp only [List.getElem?_cons_zero, Option.some.injEq] at hj
        subst hj
        simp only [List.set_cons_zero, denL, den]
        rw [denL_agree hag r hw.2]
        simp [Env.setV]
      | succ j =>
        simp only [List.set_cons_succ, denL]
        rw [ih j hj hw.2, den_agree hag x hw.1]
  have hwset : ∀ (l : List SV) (j : Nat), wsL h.length l → wsL (h.length + 1) (l.set j (.x h.length [])) := by
    intro l
    induction l with
    | nil => intro j _; exact trivial
    | cons x r ih =>
      intro j hw
      cases j with
      | zero => exact ⟨Nat.lt_succ_self _, wsL_mono (Nat.le_succ _) r hw.2⟩
      | succ j => exact ⟨ws_mono (Nat.le_succ _) x hw.1, ih j hw.2⟩
  refine hk F hF w0 hw0 _ a w S2 ⟨T0.size, T0.defers, fun t2 s hs => ?_, fun t2 s hs => ?_⟩
  · simp only [lk] at hs
    cases hb : Nat.beq t t2 with
    | true =>
      rw [hb] at hs
      simp only [cond_true, Option.some.injEq] at hs
      subst hs
      rw [← Nat.eq_of_beq_eq_true hb]
      refine (T0.get t _ ht).trans (congrArg some ?_)
      have e1 : den (e.setV h.length (fun _ => .slice none 0 0) (fun _ => rfl)) (.agg (cs.set j (.x h.length []))) = .agg (denL (e.setV h.length (fun _ => .slice none 0 0) (fun _ => rfl)) (cs.set j (.x h.length []))).toArray := by rw [den]
      rw [hden cs j hj hws] at e1
      rw [den]
      exact e1.symm
    | false =>
      rw [hb] at hs
      rw [cond_false, lk_del_ne tm t t2 (fun h => by rw [h, Nat.beq_refl] at hb; cases hb)] at hs
      exact (T0.get t2 s hs).trans (congrArg some (den_agree hag s (T0.wsc t2 s hs)).symm)
  · rw [hl]
    simp only [lk] at hs
    cases hb : Nat.beq t t2 with
    | true =>
      rw [hb] at hs
      simp only [cond_true, Option.some.injEq] at hs
      subst hs
      exact hwset cs j hws
    | false =>
      rw [hb] at hs
      rw [cond_false, lk_del_ne tm t t2 (fun h => by rw [h, Nat.beq_refl] at hb; cases hb)] at hs
      exact ws_mono (Nat.le_succ _) s (T0.wsc t2 s hs)
end Go.Sx
/- Faults compared; great circuits. -/
namespace Go.Pl
open Go.Sx
def great13 (c : Cir) (s : Sht) : Bool := decide (200 < c.nodes.length ∨ 100 < c.gates.length ∨ 20 < c.looks.length ∨ 100 < c.eqs.length ∨ 100 < s.fx.length + s.ad.length + s.is.length ∨ 1000 < s.cp.length)
end Go.Pl
namespace Go.Proofs.Ytlmjdcbhpffanaa
open Go.Sx Go.Pl
set_option linter.unusedVariables false
set_option maxRecDepth 100000
theorem sfR (b b2 : Bool) (l l2 : List (Int × Int × Int)) (n n2 k M : Nat) (K : List It → St → Prop) (R : SV → List HO → Prop) : W (xwp Try.prog X K80 [] 60 (fxOf Try.f26 [] [⟨[0,1,0,1,1], [5,4,0,1], []⟩]) [] (.at [0,0,1,0,1,1] :: .rnd [0,0,1,0,1,1] M :: [.blk 0, .at [1,1,1]]) ⟨[(5, .v (.int .i64 (k : Int))), (4, .v (.bool false)), (0, .x 0 []), (1, .x 1 [])], [.ext b (.s false 3 n (cQ l)), .ext b2 (.s false 3 n2 (cQ l2))]⟩ K R) = W (bif decide ((↑k : Int) < (↑n : Int)) then (∀ (M : Mem), (0 : Int) ≤ (↑k : Int) ∧ (↑k : Int) < (↑n : Int)) ∧ (∀ (M : Mem), k < n) ∧ (∀ (M : Mem), (0 : Int) ≤ (↑k : Int) ∧ (↑k : Int) < (↑n2 : Int)) ∧ (∀ (M : Mem), k < n2) ∧ bif !decide ([(gQ l k).1, (gQ l k).2.1, (gQ l k).2.2] = [(gQ l2 k).1, (gQ l2 k).2.1, (gQ l2 k).2.2]) then R (SV.v (Value.bool false)) [] else K [It.rnd [0, 0, 1, 0, 1, 1] M, It.blk 0, It.at [1, 1, 1]] (St.mk [(5, SV.v (vi64 (IntKind.wrap IntKind.i64 ((↑k : Int) + (1 : Int))))), (4, SV.v (Value.bool false)), (0, SV.x 0 []), (1, SV.x 1 [])] [HO.ext b (Cell.s false 3 n (cQ l)), HO.ext b2 (Cell.s false 3 n2 (cQ l2))]) else R (SV.v (Value.bool true)) []) := by kernel_rfl
theorem sfS (b b2 : Bool) (l l2 : List (Int × Int × Int)) (n n2 : Nat) (K : List It → St → Prop) (R : SV → List HO → Prop) : W (xwp Try.prog X K80 [] 60 (fxOf Try.f26 [] [⟨[0,1,0,1,1], [5,4,0,1], []⟩]) [] [.at []] ⟨argsS 0 [.x 0 [], .x 1 []], [.ext b (.s false 3 n (cQ l)), .ext b2 (.s false 3 n2 (cQ l2))]⟩ K R) = W (bif !(↑n : Int) == (↑n2 : Int) then R (SV.v (Value.bool false)) [] else K [It.at [0, 1, 0, 1, 1], It.blk 0, It.at [1, 1, 1]] (St.mk [(5, SV.v (vi64 (0 : Int))), (4, SV.v (Value.bool false)), (0, SV.x 0 []), (1, SV.x 1 [])] [HO.ext b (Cell.s false 3 n (cQ l)), HO.ext b2 (Cell.s false 3 n2 (cQ l2))])) := by kernel_rfl
theorem gr13S (c : Cir) (s : Sht) (K : List It → St → Prop) (R : SV → List HO → Prop) : W (xwp Try.prog X K80 [] 60 (fxOf Try.f24 [] []) [] [.at []] ⟨argsS 0 [.agg [.v (.int .i64 c.fx), .v (.int .i64 c.ad), .v (.int .i64 c.ins), .x 0 [], .x 1 [], .x 2 [], .x 3 []], .agg [.x 4 [], .x 5 [], .x 6 [], .x 7 []]], [.ext false (.s false 7 c.nodes.length (cN c.nodes)), .ext false (.s false 1 c.gates.length (cI c.gates)), .ext false (.s false 2 c.looks.length (cL c.looks)), .ext false (.s false 2 c.eqs.length (cK c.eqs)), .ext false (.s false 1 s.fx.length (cT s.fx)), .ext false (.s false 1 s.ad.length (cT s.ad)), .ext false (.s false 1 s.is.length (cT s.is)), .ext false (.s false 4 s.cp.length (cP s.cp))]⟩ K R) = W (bif decide ((200 : Int) < (↑(List.length c.4) : Int)) then R (SV.v (Value.bool true)) [] else bif decide ((100 : Int) < (↑(List.length c.5) : Int)) then R (SV.v (Value.bool true)) [] else bif decide ((20 : Int) < (↑(List.length c.6) : Int)) then R (SV.v (Value.bool true)) [] else bif decide ((100 : Int) < (↑(List.length c.7) : Int)) then R (SV.v (Value.bool true)) [] else bif decide ((100 : Int) < IntKind.wrap IntKind.i64 (IntKind.wrap IntKind.i64 ((↑(List.length s.1) : Int) + (↑(List.length s.2) : Int)) + (↑(List.length s.3) : Int))) then R (SV.v (Value.bool true)) [] else R (SV.v (Value.bool (decide ((1000 : Int) < (↑(List.length s.4) : Int))))) []) := by kernel_rfl
theorem sf_loop (b b2 : Bool) (l l2 : List (Int × Int × Int)) (hl : l.length = l2.length) (hb : l.length ≤ 4398046511104) (Q : SV → List HO → Prop) (hq1 : (∀ k, k < l.length → [(gQ l k).1, (gQ l k).2.1, (gQ l k).2.2] = [(gQ l2 k).1, (gQ l2 k).2.1, (gQ l2 k).2.2]) → Q (.v (.bool true)) []) (hq0 : (∃ k, k < l.length ∧ ¬ ([(gQ l k).1, (gQ l k).2.1, (gQ l k).2.2] = [(gQ l2 k).1, (gQ l2 k).2.1, (gQ l2 k).2.2])) → Q (.v (.bool false)) []) :
    ∀ (d k : Nat), k + d = l.length → (∀ k', k' < k → [(gQ l k').1, (gQ l k').2.1, (gQ l k').2.2] = [(gQ l2 k').1, (gQ l2 k').2.1, (gQ l2 k').2.2]) →
    FOk Try.prog Try.f26 Q (.rnd [0,0,1,0,1,1] (d + 1) :: [.blk 0, .at [1,1,1]]) ⟨[(5, .v (.int .i64 (k : Int))), (4, .v (.bool false)), (0, .x 0 []), (1, .x 1 [])], [.ext b (.s false 3 l.length (cQ l)), .ext b2 (.s false 3 l2.length (cQ l2))]⟩
  | 0, k, hd, he => by
    refine FOk.rnd (run_sound hm 60 ((sfR b b2 l l2 l.length l2.length k 0 _ _).mpr ⟨?_⟩))
    simp only [cond_dec]
    rw [if_neg (by omega)]
    exact hq1 fun k' hk' => he k' (by omega)
  | d + 1, k, hd, he => by
    refine FOk.rnd (run_sound hm 60 ((sfR b b2 l l2 l.length l2.length k (d + 1) _ _).mpr ⟨?_⟩))
    simp only [cond_dec, cond_not, forall_const]
    rw [if_pos (by omega)]
    repeat' (first | refine And.intro (by omega) ?_ | refine ite_intro (fun h => ?_) (fun h => ?_))
    · rw [wrap_inc _ (by omega)]
      refine sf_loop b b2 l l2 hl hb Q hq1 hq0 d (k + 1) (by omega) fun k' hk' => ?_
      by_cases hh : k' = k
      · rw [hh]; exact h
      · exact he k' (by omega)
    · exact hq0 ⟨k, by omega, h⟩
theorem bsf : Try.f26.body.isSome = true := by kernel_rfl
theorem nsf : Nat.ble [SV.x 0 [], .x 1 []].length Try.f26.ntmps = true := by kernel_rfl
theorem sf_ok (b b2 : Bool) (l l2 : List (Int × Int × Int)) (hb : l.length ≤ 4398046511104) (Q : SV → List HO → Prop) (hq1 : l.length = l2.length → (∀ k, k < l.length → [(gQ l k).1, (gQ l k).2.1, (gQ l k).2.2] = [(gQ l2 k).1, (gQ l2 k).2.1, (gQ l2 k).2.2]) → Q (.v (.bool true)) []) (hq0 : (l.length ≠ l2.length ∨ ∃ k, k < l.length ∧ ¬ ([(gQ l k).1, (gQ l k).2.1, (gQ l k).2.2] = [(gQ l2 k).1, (gQ l2 k).2.1, (gQ l2 k).2.2])) → Q (.v (.bool false)) []) : FnOk Try.prog 26 [.x 0 [], .x 1 []] [.ext b (.s false 3 l.length (cQ l)), .ext b2 (.s false 3 l2.length (cQ l2))] Q := by
  refine fn_of_ok Try.func26 bsf ?_ ?_
  · exact nsf
  refine run_sound hm 60 ((sfS b b2 l l2 l.length l2.length _ _).mpr ⟨?_⟩)
  simp only [cond_not, cond_beq]
  refine ite_intro (fun h => ?_) (fun h => hq0 (.inl (by omega)))
  have h' : l.length = l2.length := by omega
  exact FOk.loop (l.length + 1) (by kernel_rfl) (sf_loop b b2 l l2 h' hb Q (hq1 h') (fun hh => hq0 (.inr hh)) l.length 0 (by omega) fun k' hk' => by omega)
noncomputable def g_sf : List SV → List HO → Option ((SV → List HO → Prop) → Prop)
  | [.x 0 [], .x 1 []], [.ext _ (.s false 3 n c), .ext _ (.s false 3 n2 c2)] => some fun Q => lQ2 n n2 c c2 fun l l2 => Q (.v (.bool (decide (l = l2)))) []
  | _, _ => none
theorem g_sf_ok (args : List SV) (h : List HO) (tr : (SV → List HO → Prop) → Prop) (Q : SV → List HO → Prop) (hc : g_sf args h = some tr) (ht : tr Q) : FnOk Try.prog 26 args h Q := by
  unfold g_sf at hc
  split at hc
  · rename_i b n c b2 n2 c2
    simp only [Option.some.injEq] at hc
    subst hc
    obtain ⟨l, l2, rfl, he, rfl, he2, hb, hq⟩ := ht.h
    refine FnOk.ac (sf_ok b b2 l l2 hb Q (fun h1 h2 => ?_) (fun h1 => ?_)) ⟨⟨rfl, rfl, rfl, rfl, he⟩, ⟨rfl, rfl, rfl, rfl, he2⟩, trivial⟩
    · rw [decide_eq_true (ext_gQ h1 fun k hk => q_eq (h2 k hk))] at hq; exact hq
    · rw [decide_eq_false (fun hh => by subst hh; exact h1.elim (fun h => h rfl) (fun ⟨_, _, h⟩ => h rfl))] at hq; exact hq
  · cases hc
theorem bGr13 : Try.f24.body.isSome = true := by kernel_rfl
theorem nGr13 (c : Cir) : Nat.ble [(.agg [.v (.int .i64 c.fx), .v (.int .i64 c.ad), .v (.int .i64 c.ins), .x 0 [], .x 1 [], .x 2 [], .x 3 []] : SV), .agg [.x 4 [], .x 5 [], .x 6 [], .x 7 []]].length Try.f24.ntmps = true := by kernel_rfl
theorem gr13_ok (c : Cir) (hc : c.ok) (s : Sht) (hs : s.ok) (Q : SV → List HO → Prop) (hq : Q (.v (.bool (great13 c s))) []) : FnOk Try.prog 24 [.agg [.v (.int .i64 c.fx), .v (.int .i64 c.ad), .v (.int .i64 c.ins), .x 0 [], .x 1 [], .x 2 [], .x 3 []], .agg [.x 4 [], .x 5 [], .x 6 [], .x 7 []]] [.ext false (.s false 7 c.nodes.length (cN c.nodes)), .ext false (.s false 1 c.gates.length (cI c.gates)), .ext false (.s false 2 c.looks.length (cL c.looks)), .ext false (.s false 2 c.eqs.length (cK c.eqs)), .ext false (.s false 1 s.fx.length (cT s.fx)), .ext false (.s false 1 s.ad.length (cT s.ad)), .ext false (.s false 1 s.is.length (cT s.is)), .ext false (.s false 4 s.cp.length (cP s.cp))] Q := by
  refine fn_of_ok Try.func24 bGr13 ?_ ?_
  · exact nGr13 c
  have h1 := hs.f.2
  have h2 := hs.a.2
  have h3 := hs.i.2
  refine run_sound hm 60 ((gr13S c s _ _).mpr ⟨?_⟩)
  rw [wrap_in ((s.1.length : Int) + (s.2.length : Int)) (by omega), wrap_in _ (by omega)]
  simp only [cond_dec]
  refine ite_intro (fun h => ?_) (fun h => ite_intro (fun h2 => ?_) (fun h2 => ite_intro (fun h3 => ?_) (fun h3 => ite_intro (fun h4 => ?_) (fun h4 => ite_intro (fun h5 => ?_) (fun h5 => ?_)))))
  all_goals first
    | (rw [show great13 c s = true from decide_eq_true (by omega)] at hq; exact hq)
    | (rw [show decide ((1000 : Int) < (s.cp.length : Int)) = great13 c s from decide_eq_decide.2 (by omega)]; exact hq)
noncomputable def gGr13 : List SV → List HO → Option ((SV → List HO → Prop) → Prop)
  | [.agg [.v (.int .i64 fx), .v (.int .i64 ad), .v (.int .i64 ins), .x 0 [], .x 1 [], .x 2 [], .x 3 []], .agg [.x 4 [], .x 5 [], .x 6 [], .x 7 []]], [.ext false (.s false 7 n0 c0), .ext false (.s false 1 n1 c1), .ext false (.s false 2 n2 c2), .ext false (.s false 2 n3 c3), .ext false (.s false 1 m0 d0), .ext false (.s false 1 m1 d1), .ext false (.s false 1 m2 d2), .ext false (.s false 4 m3 d3)] =>
    some fun Q => lF fx ad ins n0 n1 n2 n3 m0 m1 m2 m3 c0 c1 c2 c3 d0 d1 d2 d3 fun c s => Q (.v (.bool (great13 c s))) []
  | _, _ => none
theorem gGr13_ok (args : List SV) (h : List HO) (tr : (SV → List HO → Prop) → Prop) (Q : SV → List HO → Prop) (hc : gGr13 args h = some tr) (ht : tr Q) : FnOk Try.prog 24 args h Q := by
  unfold gGr13 at hc
  split at hc
  · simp only [Option.some.injEq] at hc
    subst hc
    obtain ⟨c, rfl, rfl, rfl, ⟨rfl, e0⟩, ⟨rfl, e1⟩, ⟨rfl, e2⟩, ⟨rfl, e3⟩, hk, ht2⟩ := ht.h.h
    obtain ⟨s, ⟨rfl, e4⟩, ⟨rfl, e5⟩, ⟨rfl, e6⟩, ⟨rfl, e7⟩, hs, hq⟩ := ht2.h
    exact FnOk.ac (gr13_ok c hk s hs Q hq) ⟨⟨rfl, rfl, rfl, rfl, e0⟩, ⟨rfl, rfl, rfl, rfl, e1⟩, ⟨rfl, rfl, rfl, rfl, e2⟩, ⟨rfl, rfl, rfl, rfl, e3⟩, ⟨rfl, rfl, rfl, rfl, e4⟩, ⟨rfl, rfl, rfl, rfl, e5⟩, ⟨rfl, rfl, rfl, rfl, e6⟩, ⟨rfl, rfl, rfl, rfl, e7⟩, trivial⟩
  · cases hc
noncomputable def K82 : Con Try.prog := (K80.add 26 g_sf g_sf_ok).add 24 gGr13 gGr13_ok
end Go.Proofs.Ytlmjdcbhpffanaa
/- The statements' first line: plain. -/
namespace Go.Pl
open Go.Sx
def alD : Cir := ⟨0, 1, 0, [⟨3, 0, 0, 0⟩, ⟨3, 0, 1, 0⟩, ⟨5, 1, 0, 0⟩, ⟨6, 0, 2, 0⟩], [3], [], []⟩
def alSh : Sht := ⟨[], [[1, 1, 2]], [], []⟩
theorem alD_ok : alD.ok where
  f := by unfold i64; simp only [alD]; omega
  a := by unfold i64; simp only [alD]; omega
  i := by unfold i64; simp only [alD]; omega
  n := by
    refine ⟨?_, by decide⟩
    intro x hx
    simp only [alD, List.mem_cons, List.not_mem_nil, or_false] at hx
    rcases hx with rfl | rfl | rfl | rfl <;> simp only [top, i64] <;> omega
  g := by
    refine ⟨?_, by decide⟩
    intro x hx
    simp only [alD, List.mem_singleton] at hx
    subst hx
    unfold i64; omega
  l := by refine ⟨?_, by decide⟩; intro x hx; cases hx
  e := by refine ⟨?_, by decide⟩; intro x hx; cases hx
theorem alSh_ok : alSh.ok where
  f := ⟨fun x hx => (by cases hx), by decide⟩
  a := by
    refine ⟨?_, by decide⟩
    intro x hx
    simp only [alSh, List.mem_singleton] at hx
    subst hx
    refine ⟨?_, by decide⟩
    intro v hv
    simp only [List.mem_cons, List.not_mem_nil, or_false] at hv
    rcases hv with rfl | rfl | rfl <;> simp only [top] <;> omega
  i := ⟨fun x hx => (by cases hx), by decide⟩
  c := ⟨fun x hx => (by cases hx), by decide⟩
theorem alD_n : IsC 4 7 (lc 7 [Cell.v (vi64 (3 : Int)), Cell.v (vi64 (0 : Int)), Cell.v (vi64 (0 : Int)), Cell.v (vu64 (0 : Int)), Cell.v (vu64 (0 : Int)), Cell.v (vu64 (0 : Int)), Cell.v (vu64 (0 : Int)), Cell.v (vi64 (3 : Int)), Cell.v (vi64 (0 : Int)), Cell.v (vi64 (1 : Int)), Cell.v (vu64 (0 : Int)), Cell.v (vu64 (0 : Int)), Cell.v (vu64 (0 : Int)), Cell.v (vu64 (0 : Int)), Cell.v (vi64 (5 : Int)), Cell.v (vi64 (1 : Int)), Cell.v (vi64 (0 : Int)), Cell.v (vu64 (0 : Int)), Cell.v (vu64 (0 : Int)), Cell.v (vu64 (0 : Int)), Cell.v (vu64 (0 : Int)), Cell.v (vi64 (6 : Int)), Cell.v (vi64 (0 : Int)), Cell.v (vi64 (2 : Int)), Cell.v (vu64 (0 : Int)), Cell.v (vu64 (0 : Int)), Cell.v (vu64 (0 : Int)), Cell.v (vu64 (0 : Int))]) (cN alD.nodes) := by
  intro k hk j hj
  have hk' : k = 0 ∨ k = 1 ∨ k = 2 ∨ k = 3 := by omega
  have hj' : j = 0 ∨ j = 1 ∨ j = 2 ∨ j = 3 ∨ j = 4 ∨ j = 5 ∨ j = 6 := by omega
  rcases hk' with rfl | rfl | rfl | rfl <;> rcases hj' with rfl | rfl | rfl | rfl | rfl | rfl | rfl <;> simp [lc, cN, gN, alD, ndCell, limb_zero]
theorem alD_g : IsC 1 1 (lc 1 [Cell.v (vi64 (3 : Int))]) (cI alD.gates) := by
  intro k hk j hj
  have hk' : k = 0 := by omega
  have hj' : j = 0 := by omega
  subst hk' hj'
  rfl
theorem alSh_e : IsC 3 4 (lc 4 [Cell.v (vu64 (1 : Int)), Cell.v (vu64 (0 : Int)), Cell.v (vu64 (0 : Int)), Cell.v (vu64 (0 : Int)), Cell.v (vu64 (1 : Int)), Cell.v (vu64 (0 : Int)), Cell.v (vu64 (0 : Int)), Cell.v (vu64 (0 : Int)), Cell.v (vu64 (2 : Int)), Cell.v (vu64 (0 : Int)), Cell.v (vu64 (0 : Int)), Cell.v (vu64 (0 : Int))]) (cE [1, 1, 2]) := by
  obtain ⟨a0, a1, a2, a3⟩ := limb_lit 1 (by omega)
  obtain ⟨b0, b1, b2, b3⟩ := limb_lit 2 (by omega)
  intro k hk j hj
  have hk' : k = 0 ∨ k = 1 ∨ k = 2 := by omega
  have hj' : j = 0 ∨ j = 1 ∨ j = 2 ∨ j = 3 := by omega
  rcases hk' with rfl | rfl | rfl <;> rcases hj' with rfl | rfl | rfl | rfl <;> simp [lc, cE, gE, a0, a1, a2, a3, b0, b1, b2, b3]
theorem alSh_a : IsC 1 1 (lc 1 [Cell.s false 4 3 (cE [1, 1, 2])]) (cT alSh.ad) := by
  intro k hk j hj
  have hk' : k = 0 := by omega
  have hj' : j = 0 := by omega
  subst hk' hj'
  rfl
theorem al_fl : IsC 2 3 (lc 3 [Cell.v (vi64 (1 : Int)), Cell.v (vi64 (0 : Int)), Cell.v (vi64 (1 : Int)), Cell.v (vi64 (1 : Int)), Cell.v (vi64 (0 : Int)), Cell.v (vi64 (2 : Int))]) (cQ [(1, 0, 1), (1, 0, 2)]) := by
  intro k hk j hj
  have hk' : k = 0 ∨ k = 1 := by omega
  have hj' : j = 0 ∨ j = 1 ∨ j = 2 := by omega
  rcases hk' with rfl | rfl <;> rcases hj' with rfl | rfl | rfl <;> rfl
theorem fNg_0 (b : Nat) : fNg 0 b = (16513537 - b % 16513537) % 16513537 := by
  rw [fNg, if_neg (by rw [fP_0]; omega), fN_eq, fP_0]
theorem fAdd_0 (a b : Nat) : fAd 0 a b = (a + b) % 16513537 := by
  rw [fAd, if_neg (by rw [fP_0]; omega), fA_eq, fP_0]
theorem alD_v (a b : Nat) (ha : a < 16513537) (hb : b < 16513537) : vlR 0 [(3, 0, 0), (3, 0, 1)] [a, b] alD.nodes = ([a, b, fNg 0 b, fAd 0 a (fNg 0 b)], 0) := by
  have ho : ordN 0 alD.nodes = true := by decide
  have hn : fNg 0 b < 16513537 := by rw [fNg_0]; omega
  have hz : fAd 0 a (fNg 0 b) < 16513537 := by rw [fAdd_0]; omega
  rw [vlR, if_neg (by rw [fP_0]; omega), if_neg (by rw [ho]; simp), if_neg (by simp)]
  have h1 : valD 0 [(3, 0, 0), (3, 0, 1)] [a, b] [] ⟨3, 0, 0, 0⟩ = some a := by
    rw [valD_q _ _ _ _ (by simp)]; rfl
  have h2 : valD 0 [(3, 0, 0), (3, 0, 1)] [a, b] [a] ⟨3, 0, 1, 0⟩ = some b := by
    rw [valD_q _ _ _ _ (by simp)]; rfl
  have h3 : valD 0 [(3, 0, 0), (3, 0, 1)] [a, b] [a, b] ⟨5, 1, 0, 0⟩ = some (fNg 0 b) := valD_n _ _ _ _ rfl
  have h4 : valD 0 [(3, 0, 0), (3, 0, 1)] [a, b] [a, b, fNg 0 b] ⟨6, 0, 2, 0⟩ = some (fAd 0 a (fNg 0 b)) := valD_a _ _ _ _ rfl
  have e : valsN 0 [(3, 0, 0), (3, 0, 1)] [a, b] [] alD.nodes = some [a, b, fNg 0 b, fAd 0 a (fNg 0 b)] := by
    rw [alD, valsN_some h1, fAd_0 a ha, List.nil_append, valsN_some h2, fAd_0 b hb]
    rw [show [a] ++ [b] = [a, b] from rfl, valsN_some h3, fAd_0 _ hn, show [a, b] ++ [fNg 0 b] = [a, b, fNg 0 b] from rfl, valsN_some h4, fAd_0 _ hz, valsN]
    rfl
  rw [e]
theorem alD_q : qsN [] alD.nodes = [(3, 0, 0), (3, 0, 1)] := by decide +kernel
theorem alD_row (r : Int) (a b : Nat) (ha : a < 16513537) (hb : b < 16513537) (h : atQ alSh 3 r [(3, 0, 0), (3, 0, 1)] = [a, b]) : gE (rowV alD alSh 0 3 (qsN [] alD.nodes) r) 3 = (a + (16513537 - b % 16513537) % 16513537) % 16513537 := by
  rw [rowV, alD_q, h, alD_v a b ha hb]
  show fAd 0 a (fNg 0 b) = _
  rw [fAdd_0, fNg_0]
theorem eI_no {v : Nat} (h : v < top) (h2 : v ≠ 0) : decide (eI v = [(0 : Int), (0 : Int), (0 : Int), (0 : Int)]) = false :=
  decide_eq_false fun hh => h2 (eI_inj h (by simp only [top]; omega) (hh.trans eI_zero.symm))
theorem dz {x v : Nat} {b : Bool} (e : x = v) (h : decide (eI v = [(0 : Int), (0 : Int), (0 : Int), (0 : Int)]) = b) : decide (eI x = [(0 : Int), (0 : Int), (0 : Int), (0 : Int)]) = b := by
  subst e; exact h
theorem al_flt : fltR alD alSh 0 3 = ([(1, 0, 1), (1, 0, 2)], 0) := by
  have h1 : fE 0 = 0 := (fE_zero 0).2 (by rw [fP_0]; omega)
  have h2 : fitV alD 3 alSh = 0 := by decide +kernel
  have h3 : rowsV alD 3 3 = (0, 3) := by decide +kernel
  have h4 : (usN 3).toNat = 4 := by decide +kernel
  have r0 := alD_row 0 1 1 (by omega) (by omega) (by decide +kernel)
  have r1 := alD_row 1 1 2 (by omega) (by omega) (by decide +kernel)
  have r2 := alD_row 2 2 0 (by omega) (by omega) (by decide +kernel)
  have er : rowsA alD alSh 0 3 4 = [rowV alD alSh 0 3 (qsN [] alD.nodes) 0, rowV alD alSh 0 3 (qsN [] alD.nodes) 1, rowV alD alSh 0 3 (qsN [] alD.nodes) 2, rowV alD alSh 0 3 (qsN [] alD.nodes) 3] := rfl
  have t0 : (2 : Nat) < top := by simp only [top]; omega
  rw [fltR, if_neg (fun h => h h1), if_neg (fun h => h h2), fltV, h4, er]
  show ((gatesF alD 3 _ 0 [3] ++ ([] ++ [])), (0 : Int)) = _
  rw [gatesF, h3, gatesF, show ((0 : Int), (3 : Int)).2 - ((0 : Int), (3 : Int)).1 = 3 from rfl, show (3 : Int).toNat = 3 from rfl, gateR, gateR, gateR, gateR]
  have e0 : decide (eI (gE (gT [rowV alD alSh 0 3 (qsN [] alD.nodes) 0, rowV alD alSh 0 3 (qsN [] alD.nodes) 1, rowV alD alSh 0 3 (qsN [] alD.nodes) 2, rowV alD alSh 0 3 (qsN [] alD.nodes) 3] (Int.toNat 0)) (Int.toNat 3)) = [(0 : Int), (0 : Int), (0 : Int), (0 : Int)]) = true := by
    exact dz r0 (decide_eq_true eI_zero)
  have e1 : decide (eI (gE (gT [rowV alD alSh 0 3 (qsN [] alD.nodes) 0, rowV alD alSh 0 3 (qsN [] alD.nodes) 1, rowV alD alSh 0 3 (qsN [] alD.nodes) 2, rowV alD alSh 0 3 (qsN [] alD.nodes) 3] (Int.toNat (0 + 1))) (Int.toNat 3)) = [(0 : Int), (0 : Int), (0 : Int), (0 : Int)]) = false := by
    exact dz r1 (eI_no (by simp only [top]; omega) (by omega))
  have e2 : decide (eI (gE (gT [rowV alD alSh 0 3 (qsN [] alD.nodes) 0, rowV alD alSh 0 3 (qsN [] alD.nodes) 1, rowV alD alSh 0 3 (qsN [] alD.nodes) 2, rowV alD alSh 0 3 (qsN [] alD.nodes) 3] (Int.toNat (0 + 1 + 1))) (Int.toNat 3)) = [(0 : Int), (0 : Int), (0 : Int), (0 : Int)]) = false := by
    exact dz r2 (eI_no (by simp only [top]; omega) (by omega))
  show ((bif decide (eI (gE (gT _ (Int.toNat 0)) (Int.toNat 3)) = _) then [] else _) ++ ((bif decide (eI (gE (gT _ (Int.toNat (0 + 1))) (Int.toNat 3)) = _) then [] else _) ++ ((bif decide (eI (gE (gT _ (Int.toNat (0 + 1 + 1))) (Int.toNat 3)) = _) then [] else _) ++ [])) ++ [] ++ ([] ++ []), (0 : Int)) = _
  rw [e0, e1, e2]
  rfl
end Go.Pl
namespace Go.Proofs.Ytlmjdcbhpffanaa
open Go.Sx Go.Pl
set_option linter.unusedVariables false
set_option maxRecDepth 100000
end Go.Proofs.Ytlmjdcbhpffanaa
/- The statements' first line. -/
namespace Go.Proofs.Ytlmjdcbhpffanaa
open Go.Sx Go.Pl
set_option linter.unusedVariables false
set_option maxRecDepth 100000
theorem al13S  (K : List It → St → Prop) (R : SV → List HO → Prop) : W (xwp Try.prog X K82 [] 60 (fxOf Try.f23 [] []) [] [.at []] ⟨argsS 0 [], []⟩ K R) = W ((∀ (M : Mem), 7 ≤ 7) ∧ K [It.ops [0, 1, 1] 7, It.at [1, 1, 1]] (St.mk [(18, SV.agg [SV.v (Value.slice none 0 0), SV.o 4, SV.v (Value.slice none 0 0), SV.v (Value.slice none 0 0)]), (17, SV.o 4), (16, SV.o 3), (15, SV.agg [SV.v (vu64 (2 : Int)), SV.v (vu64 (0 : Int)), SV.v (vu64 (0 : Int)), SV.v (vu64 (0 : Int))]), (14, SV.agg [SV.v (vu64 (1 : Int)), SV.v (vu64 (0 : Int)), SV.v (vu64 (0 : Int)), SV.v (vu64 (0 : Int))]), (13, SV.agg [SV.v (vu64 (1 : Int)), SV.v (vu64 (0 : Int)), SV.v (vu64 (0 : Int)), SV.v (vu64 (0 : Int))]), (12, SV.agg [SV.v (vi64 (0 : Int)), SV.v (vi64 (1 : Int)), SV.v (vi64 (0 : Int)), SV.o 0, SV.o 1, SV.v (Value.slice none 0 0), SV.v (Value.slice none 0 0)]), (1, SV.p 2 0), (10, SV.agg [SV.v (vi64 (0 : Int)), SV.v (vi64 (1 : Int)), SV.v (vi64 (0 : Int)), SV.o 0, SV.o 1, SV.v (Value.slice none 0 0), SV.v (Value.slice none 0 0)]), (9, SV.o 1), (8, SV.o 0), (7, SV.agg [SV.v (vi64 (6 : Int)), SV.v (vi64 (0 : Int)), SV.v (vi64 (2 : Int)), SV.v (vu64 (0 : Int)), SV.v (vu64 (0 : Int)), SV.v (vu64 (0 : Int)), SV.v (vu64 (0 : Int))]), (6, SV.agg [SV.v (vi64 (5 : Int)), SV.v (vi64 (1 : Int)), SV.v (vi64 (0 : Int)), SV.v (vu64 (0 : Int)), SV.v (vu64 (0 : Int)), SV.v (vu64 (0 : Int)), SV.v (vu64 (0 : Int))]), (5, SV.agg [SV.v (vi64 (3 : Int)), SV.v (vi64 (0 : Int)), SV.v (vi64 (1 : Int)), SV.v (vu64 (0 : Int)), SV.v (vu64 (0 : Int)), SV.v (vu64 (0 : Int)), SV.v (vu64 (0 : Int))]), (4, SV.agg [SV.v (vi64 (3 : Int)), SV.v (vi64 (0 : Int)), SV.v (vi64 (0 : Int)), SV.v (vu64 (0 : Int)), SV.v (vu64 (0 : Int)), SV.v (vu64 (0 : Int)), SV.v (vu64 (0 : Int))]), (0, SV.v (Value.bool false))] [HO.row 113 7 4 [SV.v (vi64 (3 : Int)), SV.v (vi64 (0 : Int)), SV.v (vi64 (0 : Int)), SV.v (vu64 (0 : Int)), SV.v (vu64 (0 : Int)), SV.v (vu64 (0 : Int)), SV.v (vu64 (0 : Int)), SV.v (vi64 (3 : Int)), SV.v (vi64 (0 : Int)), SV.v (vi64 (1 : Int)), SV.v (vu64 (0 : Int)), SV.v (vu64 (0 : Int)), SV.v (vu64 (0 : Int)), SV.v (vu64 (0 : Int)), SV.v (vi64 (5 : Int)), SV.v (vi64 (1 : Int)), SV.v (vi64 (0 : Int)), SV.v (vu64 (0 : Int)), SV.v (vu64 (0 : Int)), SV.v (vu64 (0 : Int)), SV.v (vu64 (0 : Int)), SV.v (vi64 (6 : Int)), SV.v (vi64 (0 : Int)), SV.v (vi64 (2 : Int)), SV.v (vu64 (0 : Int)), SV.v (vu64 (0 : Int)), SV.v (vu64 (0 : Int)), SV.v (vu64 (0 : Int))], HO.row 3 1 1 [SV.v (vi64 (3 : Int))], HO.cells [SV.v (vi64 (0 : Int)), SV.v (vi64 (1 : Int)), SV.v (vi64 (0 : Int)), SV.o 0, SV.o 1, SV.v (Value.slice none 0 0), SV.v (Value.slice none 0 0)] 27, HO.row 56 4 3 [SV.v (vu64 (1 : Int)), SV.v (vu64 (0 : Int)), SV.v (vu64 (0 : Int)), SV.v (vu64 (0 : Int)), SV.v (vu64 (1 : Int)), SV.v (vu64 (0 : Int)), SV.v (vu64 (0 : Int)), SV.v (vu64 (0 : Int)), SV.v (vu64 (2 : Int)), SV.v (vu64 (0 : Int)), SV.v (vu64 (0 : Int)), SV.v (vu64 (0 : Int))], HO.row 44 1 1 [SV.o 3]])) := by kernel_rfl
theorem al13R  (K : List It → St → Prop) (R : SV → List HO → Prop) : W (xwp Try.prog X K82 [] 60 (fxOf Try.f23 [] []) [] (.ops [0,1,1] 7 :: [.at [1,1,1]]) (St.mk [(18, SV.agg [SV.x 0 [], SV.x 1 [], SV.x 2 [], SV.x 3 []]), (12, SV.agg [SV.v (vi64 (0 : Int)), SV.v (vi64 (1 : Int)), SV.v (vi64 (0 : Int)), SV.x 4 [], SV.x 5 [], SV.x 6 [], SV.x 7 []]), (0, SV.v (Value.bool false))] [HO.ext false (Cell.s false 1 0 (cT [])), HO.ext false (Cell.s false 1 1 (lc 1 [Cell.s false 4 3 (cE [1, 1, 2])])), HO.ext false (Cell.s false 1 0 (cT [])), HO.ext false (Cell.s false 4 0 (cP [])), HO.ext false (Cell.s false 7 4 (lc 7 [Cell.v (vi64 (3 : Int)), Cell.v (vi64 (0 : Int)), Cell.v (vi64 (0 : Int)), Cell.v (vu64 (0 : Int)), Cell.v (vu64 (0 : Int)), Cell.v (vu64 (0 : Int)), Cell.v (vu64 (0 : Int)), Cell.v (vi64 (3 : Int)), Cell.v (vi64 (0 : Int)), Cell.v (vi64 (1 : Int)), Cell.v (vu64 (0 : Int)), Cell.v (vu64 (0 : Int)), Cell.v (vu64 (0 : Int)), Cell.v (vu64 (0 : Int)), Cell.v (vi64 (5 : Int)), Cell.v (vi64 (1 : Int)), Cell.v (vi64 (0 : Int)), Cell.v (vu64 (0 : Int)), Cell.v (vu64 (0 : Int)), Cell.v (vu64 (0 : Int)), Cell.v (vu64 (0 : Int)), Cell.v (vi64 (6 : Int)), Cell.v (vi64 (0 : Int)), Cell.v (vi64 (2 : Int)), Cell.v (vu64 (0 : Int)), Cell.v (vu64 (0 : Int)), Cell.v (vu64 (0 : Int)), Cell.v (vu64 (0 : Int))])), HO.ext false (Cell.s false 1 1 (lc 1 [Cell.v (vi64 (3 : Int))])), HO.ext false (Cell.s false 2 0 (cL [])), HO.ext false (Cell.s false 2 0 (cK []))]) K R) = W (lF (0 : Int) (1 : Int) (0 : Int) 4 1 0 0 0 1 0 0 (lc 7 [Cell.v (vi64 (3 : Int)), Cell.v (vi64 (0 : Int)), Cell.v (vi64 (0 : Int)), Cell.v (vu64 (0 : Int)), Cell.v (vu64 (0 : Int)), Cell.v (vu64 (0 : Int)), Cell.v (vu64 (0 : Int)), Cell.v (vi64 (3 : Int)), Cell.v (vi64 (0 : Int)), Cell.v (vi64 (1 : Int)), Cell.v (vu64 (0 : Int)), Cell.v (vu64 (0 : Int)), Cell.v (vu64 (0 : Int)), Cell.v (vu64 (0 : Int)), Cell.v (vi64 (5 : Int)), Cell.v (vi64 (1 : Int)), Cell.v (vi64 (0 : Int)), Cell.v (vu64 (0 : Int)), Cell.v (vu64 (0 : Int)), Cell.v (vu64 (0 : Int)), Cell.v (vu64 (0 : Int)), Cell.v (vi64 (6 : Int)), Cell.v (vi64 (0 : Int)), Cell.v (vi64 (2 : Int)), Cell.v (vu64 (0 : Int)), Cell.v (vu64 (0 : Int)), Cell.v (vu64 (0 : Int)), Cell.v (vu64 (0 : Int))]) (lc 1 [Cell.v (vi64 (3 : Int))]) (cL []) (cK []) (cT []) (lc 1 [Cell.s false 4 3 (cE [1, 1, 2])]) (cT []) (cP []) fun (c : Cir) (s : Sht) => bif (fltR c s (0 : Int) (3 : Int)).2 == (0 : Int) then lQ2 (List.length (fltR c s (0 : Int) (3 : Int)).1) 2 (cQ (fltR c s (0 : Int) (3 : Int)).1) (lc 3 [Cell.v (vi64 (1 : Int)), Cell.v (vi64 (0 : Int)), Cell.v (vi64 (1 : Int)), Cell.v (vi64 (1 : Int)), Cell.v (vi64 (0 : Int)), Cell.v (vi64 (2 : Int))]) fun (l l2 : List (Int × Int × Int)) => R (SV.v (Value.bool (decide (l = l2)))) [] else R (SV.v (Value.bool false)) []) := by kernel_rfl
theorem bAl13 : Try.f23.body.isSome = true := by kernel_rfl
theorem nAl13 : Nat.ble ([] : List SV).length Try.f23.ntmps = true := by kernel_rfl
theorem al13_lF {k : Cir → Sht → Prop} (h : k alD alSh) : lF (0 : Int) (1 : Int) (0 : Int) 4 1 0 0 0 1 0 0 (lc 7 [Cell.v (vi64 (3 : Int)), Cell.v (vi64 (0 : Int)), Cell.v (vi64 (0 : Int)), Cell.v (vu64 (0 : Int)), Cell.v (vu64 (0 : Int)), Cell.v (vu64 (0 : Int)), Cell.v (vu64 (0 : Int)), Cell.v (vi64 (3 : Int)), Cell.v (vi64 (0 : Int)), Cell.v (vi64 (1 : Int)), Cell.v (vu64 (0 : Int)), Cell.v (vu64 (0 : Int)), Cell.v (vu64 (0 : Int)), Cell.v (vu64 (0 : Int)), Cell.v (vi64 (5 : Int)), Cell.v (vi64 (1 : Int)), Cell.v (vi64 (0 : Int)), Cell.v (vu64 (0 : Int)), Cell.v (vu64 (0 : Int)), Cell.v (vu64 (0 : Int)), Cell.v (vu64 (0 : Int)), Cell.v (vi64 (6 : Int)), Cell.v (vi64 (0 : Int)), Cell.v (vi64 (2 : Int)), Cell.v (vu64 (0 : Int)), Cell.v (vu64 (0 : Int)), Cell.v (vu64 (0 : Int)), Cell.v (vu64 (0 : Int))]) (lc 1 [Cell.v (vi64 (3 : Int))]) (cL []) (cK []) (cT []) (lc 1 [Cell.s false 4 3 (cE [1, 1, 2])]) (cT []) (cP []) k := by
  have := lF_mk alD alD_ok alSh alSh_ok h
  obtain ⟨c, e1, e2, e3, ⟨n0, i0⟩, ⟨n1, i1⟩, r2, r3, hk, ht2⟩ := this.h.h
  obtain ⟨s, q0, ⟨m1, j1⟩, q2, q3, hs, hq⟩ := ht2.h
  exact ⟨⟨c, e1, e2, e3, ⟨n0, alD_n.trans i0⟩, ⟨n1, alD_g.trans i1⟩, r2, r3, hk, ⟨⟨s, q0, ⟨m1, alSh_a.trans j1⟩, q2, q3, hs, hq⟩⟩⟩⟩
theorem al13_ok (Q : SV → List HO → Prop) (hq : Q (.v (.bool true)) []) : FnOk Try.prog 23 [] [] Q := by
  refine fn_of_ok Try.func23 bAl13 ?_ ?_
  · exact nAl13
  refine run_sound hm 60 ((al13S _ _).mpr ⟨And.intro (fun _ => Nat.le_refl 7) ?_⟩)
  refine FOk.norm (ks := [18,12,0]) (nl := []) (st' := (St.mk [(18, SV.agg [SV.v (Value.slice none 0 0), SV.o 0, SV.v (Value.slice none 0 0), SV.v (Value.slice none 0 0)]), (12, SV.agg [SV.v (vi64 (0 : Int)), SV.v (vi64 (1 : Int)), SV.v (vi64 (0 : Int)), SV.o 1, SV.o 2, SV.v (Value.slice none 0 0), SV.v (Value.slice none 0 0)]), (0, SV.v (Value.bool false))] [HO.row 44 1 1 [SV.o 3], HO.rowc 113 7 4 (Ct.lit 7 [Cell.v (vi64 (3 : Int)), Cell.v (vi64 (0 : Int)), Cell.v (vi64 (0 : Int)), Cell.v (vu64 (0 : Int)), Cell.v (vu64 (0 : Int)), Cell.v (vu64 (0 : Int)), Cell.v (vu64 (0 : Int)), Cell.v (vi64 (3 : Int)), Cell.v (vi64 (0 : Int)), Cell.v (vi64 (1 : Int)), Cell.v (vu64 (0 : Int)), Cell.v (vu64 (0 : Int)), Cell.v (vu64 (0 : Int)), Cell.v (vu64 (0 : Int)), Cell.v (vi64 (5 : Int)), Cell.v (vi64 (1 : Int)), Cell.v (vi64 (0 : Int)), Cell.v (vu64 (0 : Int)), Cell.v (vu64 (0 : Int)), Cell.v (vu64 (0 : Int)), Cell.v (vu64 (0 : Int)), Cell.v (vi64 (6 : Int)), Cell.v (vi64 (0 : Int)), Cell.v (vi64 (2 : Int)), Cell.v (vu64 (0 : Int)), Cell.v (vu64 (0 : Int)), Cell.v (vu64 (0 : Int)), Cell.v (vu64 (0 : Int))]), HO.rowc 3 1 1 (Ct.lit 1 [Cell.v (vi64 (3 : Int))]), HO.rowc 56 4 3 (Ct.lit 4 [Cell.v (vu64 (1 : Int)), Cell.v (vu64 (0 : Int)), Cell.v (vu64 (0 : Int)), Cell.v (vu64 (0 : Int)), Cell.v (vu64 (1 : Int)), Cell.v (vu64 (0 : Int)), Cell.v (vu64 (0 : Int)), Cell.v (vu64 (0 : Int)), Cell.v (vu64 (2 : Int)), Cell.v (vu64 (0 : Int)), Cell.v (vu64 (0 : Int)), Cell.v (vu64 (0 : Int))])])) (by kernel_rfl) ?_
  refine FOk.cv (h' := (St.heap (St.mk [(18, SV.agg [SV.v (Value.slice none 0 0), SV.o 0, SV.v (Value.slice none 0 0), SV.v (Value.slice none 0 0)]), (12, SV.agg [SV.v (vi64 (0 : Int)), SV.v (vi64 (1 : Int)), SV.v (vi64 (0 : Int)), SV.o 1, SV.o 2, SV.v (Value.slice none 0 0), SV.v (Value.slice none 0 0)]), (0, SV.v (Value.bool false))] [HO.row 44 1 1 [SV.o 3], HO.rowc 113 7 4 (Ct.lit 7 [Cell.v (vi64 (3 : Int)), Cell.v (vi64 (0 : Int)), Cell.v (vi64 (0 : Int)), Cell.v (vu64 (0 : Int)), Cell.v (vu64 (0 : Int)), Cell.v (vu64 (0 : Int)), Cell.v (vu64 (0 : Int)), Cell.v (vi64 (3 : Int)), Cell.v (vi64 (0 : Int)), Cell.v (vi64 (1 : Int)), Cell.v (vu64 (0 : Int)), Cell.v (vu64 (0 : Int)), Cell.v (vu64 (0 : Int)), Cell.v (vu64 (0 : Int)), Cell.v (vi64 (5 : Int)), Cell.v (vi64 (1 : Int)), Cell.v (vi64 (0 : Int)), Cell.v (vu64 (0 : Int)), Cell.v (vu64 (0 : Int)), Cell.v (vu64 (0 : Int)), Cell.v (vu64 (0 : Int)), Cell.v (vi64 (6 : Int)), Cell.v (vi64 (0 : Int)), Cell.v (vi64 (2 : Int)), Cell.v (vu64 (0 : Int)), Cell.v (vu64 (0 : Int)), Cell.v (vu64 (0 : Int)), Cell.v (vu64 (0 : Int))]), HO.rowc 3 1 1 (Ct.lit 1 [Cell.v (vi64 (3 : Int))]), HO.rowc 56 4 3 (Ct.fn (cE [1, 1, 2]))]))) ?_ ⟨HE.refl _, HE.refl _, HE.refl _, ⟨rfl, rfl, rfl, alSh_e⟩, trivial⟩
  refine FOk.frzH 3 rfl ?_
  refine FOk.norm (ks := [18,12,0]) (nl := []) (st' := (St.mk [(18, SV.agg [SV.v (Value.slice none 0 0), SV.o 0, SV.v (Value.slice none 0 0), SV.v (Value.slice none 0 0)]), (12, SV.agg [SV.v (vi64 (0 : Int)), SV.v (vi64 (1 : Int)), SV.v (vi64 (0 : Int)), SV.o 1, SV.o 2, SV.v (Value.slice none 0 0), SV.v (Value.slice none 0 0)]), (0, SV.v (Value.bool false))] [HO.rowc 44 1 1 (Ct.lit 1 [Cell.s false 4 3 (cE [1, 1, 2])]), HO.rowc 113 7 4 (Ct.lit 7 [Cell.v (vi64 (3 : Int)), Cell.v (vi64 (0 : Int)), Cell.v (vi64 (0 : Int)), Cell.v (vu64 (0 : Int)), Cell.v (vu64 (0 : Int)), Cell.v (vu64 (0 : Int)), Cell.v (vu64 (0 : Int)), Cell.v (vi64 (3 : Int)), Cell.v (vi64 (0 : Int)), Cell.v (vi64 (1 : Int)), Cell.v (vu64 (0 : Int)), Cell.v (vu64 (0 : Int)), Cell.v (vu64 (0 : Int)), Cell.v (vu64 (0 : Int)), Cell.v (vi64 (5 : Int)), Cell.v (vi64 (1 : Int)), Cell.v (vi64 (0 : Int)), Cell.v (vu64 (0 : Int)), Cell.v (vu64 (0 : Int)), Cell.v (vu64 (0 : Int)), Cell.v (vu64 (0 : Int)), Cell.v (vi64 (6 : Int)), Cell.v (vi64 (0 : Int)), Cell.v (vi64 (2 : Int)), Cell.v (vu64 (0 : Int)), Cell.v (vu64 (0 : Int)), Cell.v (vu64 (0 : Int)), Cell.v (vu64 (0 : Int))]), HO.rowc 3 1 1 (Ct.lit 1 [Cell.v (vi64 (3 : Int))])])) (by kernel_rfl) ?_
  refine FOk.frz 0 rfl (FOk.frz 1 rfl (FOk.frz 2 rfl ?_))
  refine FOk.norm (ks := [18,12,0]) (nl := []) (st' := (St.mk [(18, SV.agg [SV.v (Value.slice none 0 0), SV.x 0 [], SV.v (Value.slice none 0 0), SV.v (Value.slice none 0 0)]), (12, SV.agg [SV.v (vi64 (0 : Int)), SV.v (vi64 (1 : Int)), SV.v (vi64 (0 : Int)), SV.x 1 [], SV.x 2 [], SV.v (Value.slice none 0 0), SV.v (Value.slice none 0 0)]), (0, SV.v (Value.bool false))] [HO.ext false (Cell.s false 1 1 (lc 1 [Cell.s false 4 3 (cE [1, 1, 2])])), HO.ext false (Cell.s false 7 4 (lc 7 [Cell.v (vi64 (3 : Int)), Cell.v (vi64 (0 : Int)), Cell.v (vi64 (0 : Int)), Cell.v (vu64 (0 : Int)), Cell.v (vu64 (0 : Int)), Cell.v (vu64 (0 : Int)), Cell.v (vu64 (0 : Int)), Cell.v (vi64 (3 : Int)), Cell.v (vi64 (0 : Int)), Cell.v (vi64 (1 : Int)), Cell.v (vu64 (0 : Int)), Cell.v (vu64 (0 : Int)), Cell.v (vu64 (0 : Int)), Cell.v (vu64 (0 : Int)), Cell.v (vi64 (5 : Int)), Cell.v (vi64 (1 : Int)), Cell.v (vi64 (0 : Int)), Cell.v (vu64 (0 : Int)), Cell.v (vu64 (0 : Int)), Cell.v (vu64 (0 : Int)), Cell.v (vu64 (0 : Int)), Cell.v (vi64 (6 : Int)), Cell.v (vi64 (0 : Int)), Cell.v (vi64 (2 : Int)), Cell.v (vu64 (0 : Int)), Cell.v (vu64 (0 : Int)), Cell.v (vu64 (0 : Int)), Cell.v (vu64 (0 : Int))])), HO.ext false (Cell.s false 1 1 (lc 1 [Cell.v (vi64 (3 : Int))]))])) (by kernel_rfl) ?_
  refine FOk.nilA 12 5 2 (cL []) rfl rfl (FOk.nilA 12 6 2 (cK []) rfl rfl (FOk.nilA 18 0 1 (cT []) rfl rfl (FOk.nilA 18 2 1 (cT []) rfl rfl (FOk.nilA 18 3 4 (cP []) rfl rfl ?_))))
  refine FOk.norm (ks := [18,12,0]) (nl := []) (st' := (St.mk [(18, SV.agg [SV.x 0 [], SV.x 1 [], SV.x 2 [], SV.x 3 []]), (12, SV.agg [SV.v (vi64 (0 : Int)), SV.v (vi64 (1 : Int)), SV.v (vi64 (0 : Int)), SV.x 4 [], SV.x 5 [], SV.x 6 [], SV.x 7 []]), (0, SV.v (Value.bool false))] [HO.ext false (Cell.s false 1 0 (cT [])), HO.ext false (Cell.s false 1 1 (lc 1 [Cell.s false 4 3 (cE [1, 1, 2])])), HO.ext false (Cell.s false 1 0 (cT [])), HO.ext false (Cell.s false 4 0 (cP [])), HO.ext false (Cell.s false 7 4 (lc 7 [Cell.v (vi64 (3 : Int)), Cell.v (vi64 (0 : Int)), Cell.v (vi64 (0 : Int)), Cell.v (vu64 (0 : Int)), Cell.v (vu64 (0 : Int)), Cell.v (vu64 (0 : Int)), Cell.v (vu64 (0 : Int)), Cell.v (vi64 (3 : Int)), Cell.v (vi64 (0 : Int)), Cell.v (vi64 (1 : Int)), Cell.v (vu64 (0 : Int)), Cell.v (vu64 (0 : Int)), Cell.v (vu64 (0 : Int)), Cell.v (vu64 (0 : Int)), Cell.v (vi64 (5 : Int)), Cell.v (vi64 (1 : Int)), Cell.v (vi64 (0 : Int)), Cell.v (vu64 (0 : Int)), Cell.v (vu64 (0 : Int)), Cell.v (vu64 (0 : Int)), Cell.v (vu64 (0 : Int)), Cell.v (vi64 (6 : Int)), Cell.v (vi64 (0 : Int)), Cell.v (vi64 (2 : Int)), Cell.v (vu64 (0 : Int)), Cell.v (vu64 (0 : Int)), Cell.v (vu64 (0 : Int)), Cell.v (vu64 (0 : Int))])), HO.ext false (Cell.s false 1 1 (lc 1 [Cell.v (vi64 (3 : Int))])), HO.ext false (Cell.s false 2 0 (cL [])), HO.ext false (Cell.s false 2 0 (cK []))])) (by kernel_rfl) ?_
  refine run_sound hm 60 ((al13R _ _).mpr ⟨al13_lF ?_⟩)
  rw [al_flt]
  refine ⟨⟨_, [(1, 0, 1), (1, 0, 2)], rfl, IsC.refl _ _ _, rfl, al_fl, by decide, ?_⟩⟩
  rw [decide_eq_true rfl]
  exact hq
noncomputable def gAl13 : List SV → List HO → Option ((SV → List HO → Prop) → Prop)
  | [], [] => some fun Q => Q (.v (.bool true)) []
  | _, _ => none
theorem gAl13_ok (args : List SV) (h : List HO) (tr : (SV → List HO → Prop) → Prop) (Q : SV → List HO → Prop) (hc : gAl13 args h = some tr) (ht : tr Q) : FnOk Try.prog 23 args h Q := by
  unfold gAl13 at hc
  split at hc
  · simp only [Option.some.injEq] at hc
    subst hc
    exact al13_ok Q ht
  · cases hc
noncomputable def K83 : Con Try.prog := K82.add 23 gAl13 gAl13_ok
end Go.Proofs.Ytlmjdcbhpffanaa
/- Arguments whose objects are told in another order. -/
namespace Go.Sx
open Go.RowKit
theorem FnOk.gcA {P : Program} {f : FuncId} {args args' : List SV} {h h' : List HO} {Q : SV → List HO → Prop} (π : List Nat) (hn : nodupB π = true) (ha : invL π args = some args') (hh : invHs π h π = some h') (k : FnOk P f args' h' Q) : FnOk P f args h Q := by
  intro F hF w0 e hm0 S hw
  obtain ⟨l1, l2⟩ := invHs_sound π h π hh
  obtain ⟨a, b⟩ := invL_sound π args ha
  have := k F hF w0 (renEnv π e) hm0 (S.ren hF π hn ⟨by rw [hm0]; exact Nat.zero_le _, fun i hi => by rw [hm0] at hi; omega⟩ (fun i x hx => (l2 i x hx).1) (fun i x hx => by rw [l1]; exact (l2 i x hx).2)) (by rw [l1]; exact b)
  rw [denL_ren, a] at this
  exact this
end Go.Sx
/- Circuits and sheets with nil slices. -/
namespace Go.Proofs.Ytlmjdcbhpffanaa
open Go.Sx Go.Pl
set_option linter.unusedVariables false
set_option maxRecDepth 100000
theorem fnL_ok (c : Cir) (hc : c.ok) (s : Sht) (hs : s.ok) (so k : Int) (h2 : c.looks = []) (Q : SV → List HO → Prop) (hq : Q (.tup [.o 0, .v (.int .i64 (fltR c s so k).2)]) [.rowc 76 3 (fltR c s so k).1.length (.fn (cQ (fltR c s so k).1))]) : FnOk Try.prog 25 [.v (.int .i64 so), .agg [.v (.int .i64 c.fx), .v (.int .i64 c.ad), .v (.int .i64 c.ins), .x 0 [], .x 1 [], .v (.slice none 0 0), .x 2 []], .v (.int .i64 k), .agg [.x 3 [], .x 4 [], .x 5 [], .x 6 []]] [.ext false (.s false 7 c.nodes.length (cN c.nodes)), .ext false (.s false 1 c.gates.length (cI c.gates)), .ext false (.s false 2 c.eqs.length (cK c.eqs)), .ext false (.s false 1 s.fx.length (cT s.fx)), .ext false (.s false 1 s.ad.length (cT s.ad)), .ext false (.s false 1 s.is.length (cT s.is)), .ext false (.s false 4 s.cp.length (cP s.cp))] Q := by
  have hs2 : ∀ (e e0 : Env) (n : Nat), agree n e0 e → ∀ i, i < n → e.val i [] = e0.val i [] := fun e e0 n ag i hi => by rw [(ag.1 i hi).2.2]
  refine FnOk.nilX (args' := [.v (.int .i64 so), .agg [.v (.int .i64 c.fx), .v (.int .i64 c.ad), .v (.int .i64 c.ins), .x 0 [], .x 1 [], .x 7 [], .x 2 []], .v (.int .i64 k), .agg [.x 3 [], .x 4 [], .x 5 [], .x 6 []]]) 2 (cL c.looks) ?_ ?_ ?_
  · simp [wsL, ws]
  · intro e e0 hv ag
    simp only [List.length_cons, List.length_nil] at hv ag
    simp [denL, den, hv, hs2 e e0 _ ag 0 (by omega), hs2 e e0 _ ag 1 (by omega), hs2 e e0 _ ag 2 (by omega), hs2 e e0 _ ag 3 (by omega), hs2 e e0 _ ag 4 (by omega), hs2 e e0 _ ag 5 (by omega), hs2 e e0 _ ag 6 (by omega)]
  refine FnOk.gcA (args' := [.v (.int .i64 so), .agg [.v (.int .i64 c.fx), .v (.int .i64 c.ad), .v (.int .i64 c.ins), .x 0 [], .x 1 [], .x 2 [], .x 3 []], .v (.int .i64 k), .agg [.x 4 [], .x 5 [], .x 6 [], .x 7 []]]) (h' := [.ext false (.s false 7 c.nodes.length (cN c.nodes)), .ext false (.s false 1 c.gates.length (cI c.gates)), .ext false (.s false 2 0 (cL c.looks)), .ext false (.s false 2 c.eqs.length (cK c.eqs)), .ext false (.s false 1 s.fx.length (cT s.fx)), .ext false (.s false 1 s.ad.length (cT s.ad)), .ext false (.s false 1 s.is.length (cT s.is)), .ext false (.s false 4 s.cp.length (cP s.cp))]) [0, 1, 7, 2, 3, 4, 5, 6] (by kernel_rfl) (by kernel_rfl) (by kernel_rfl) ?_
  have := flt_ok c hc s hs so k Q hq
  rw [h2] at this
  rw [h2]
  exact this
noncomputable def g_fnL : List SV → List HO → Option ((SV → List HO → Prop) → Prop)
  | [.v (.int .i64 so), .agg [.v (.int .i64 fx), .v (.int .i64 ad), .v (.int .i64 ins), .x 0 [], .x 1 [], .v (.slice none 0 0), .x 2 []], .v (.int .i64 k), .agg [.x 3 [], .x 4 [], .x 5 [], .x 6 []]], [.ext false (.s false 7 n0 c0), .ext false (.s false 1 n1 c1), .ext false (.s false 2 n3 c3), .ext false (.s false 1 n4 c4), .ext false (.s false 1 n5 c5), .ext false (.s false 1 n6 c6), .ext false (.s false 4 n7 c7)] => some fun Q => lF fx ad ins n0 n1 0 n3 n4 n5 n6 n7 c0 c1 (cL []) c3 c4 c5 c6 c7 fun c s => Q (.tup [.o 0, .v (.int .i64 (fltR c s so k).2)]) [.rowc 76 3 (fltR c s so k).1.length (.fn (cQ (fltR c s so k).1))]
  | _, _ => none
theorem g_fnL_ok (args : List SV) (h : List HO) (tr : (SV → List HO → Prop) → Prop) (Q : SV → List HO → Prop) (hc : g_fnL args h = some tr) (ht : tr Q) : FnOk Try.prog 25 args h Q := by
  unfold g_fnL at hc
  split at hc
  · simp only [Option.some.injEq] at hc
    subst hc
    obtain ⟨c, rfl, rfl, rfl, ⟨rfl, e0⟩, ⟨rfl, e1⟩, ⟨n2, e2⟩, ⟨rfl, e3⟩, hk, ht2⟩ := ht.h.h
    obtain ⟨s, ⟨rfl, e4⟩, ⟨rfl, e5⟩, ⟨rfl, e6⟩, ⟨rfl, e7⟩, hs, hq⟩ := ht2.h
    exact FnOk.ac (fnL_ok c hk s hs _ _ (List.eq_nil_of_length_eq_zero n2.symm) Q hq) ⟨⟨rfl, rfl, rfl, rfl, e0⟩, ⟨rfl, rfl, rfl, rfl, e1⟩, ⟨rfl, rfl, rfl, rfl, e3⟩, ⟨rfl, rfl, rfl, rfl, e4⟩, ⟨rfl, rfl, rfl, rfl, e5⟩, ⟨rfl, rfl, rfl, rfl, e6⟩, ⟨rfl, rfl, rfl, rfl, e7⟩, trivial⟩
  · cases hc
theorem fnGC_ok (c : Cir) (hc : c.ok) (s : Sht) (hs : s.ok) (so k : Int) (h1 : c.gates = []) (h7 : s.cp = []) (Q : SV → List HO → Prop) (hq : Q (.tup [.o 0, .v (.int .i64 (fltR c s so k).2)]) [.rowc 76 3 (fltR c s so k).1.length (.fn (cQ (fltR c s so k).1))]) : FnOk Try.prog 25 [.v (.int .i64 so), .agg [.v (.int .i64 c.fx), .v (.int .i64 c.ad), .v (.int .i64 c.ins), .x 0 [], .v (.slice none 0 0), .x 1 [], .x 2 []], .v (.int .i64 k), .agg [.x 3 [], .x 4 [], .x 5 [], .v (.slice none 0 0)]] [.ext false (.s false 7 c.nodes.length (cN c.nodes)), .ext false (.s false 2 c.looks.length (cL c.looks)), .ext false (.s false 2 c.eqs.length (cK c.eqs)), .ext false (.s false 1 s.fx.length (cT s.fx)), .ext false (.s false 1 s.ad.length (cT s.ad)), .ext false (.s false 1 s.is.length (cT s.is))] Q := by
  have hs2 : ∀ (e e0 : Env) (n : Nat), agree n e0 e → ∀ i, i < n → e.val i [] = e0.val i [] := fun e e0 n ag i hi => by rw [(ag.1 i hi).2.2]
  refine FnOk.nilX (args' := [.v (.int .i64 so), .agg [.v (.int .i64 c.fx), .v (.int .i64 c.ad), .v (.int .i64 c.ins), .x 0 [], .x 6 [], .x 1 [], .x 2 []], .v (.int .i64 k), .agg [.x 3 [], .x 4 [], .x 5 [], .v (.slice none 0 0)]]) 1 (cI c.gates) ?_ ?_ ?_
  · simp [wsL, ws]
  · intro e e0 hv ag
    simp only [List.length_cons, List.length_nil] at hv ag
    simp [denL, den, hv, hs2 e e0 _ ag 0 (by omega), hs2 e e0 _ ag 1 (by omega), hs2 e e0 _ ag 2 (by omega), hs2 e e0 _ ag 3 (by omega), hs2 e e0 _ ag 4 (by omega), hs2 e e0 _ ag 5 (by omega)]
  refine FnOk.nilX (args' := [.v (.int .i64 so), .agg [.v (.int .i64 c.fx), .v (.int .i64 c.ad), .v (.int .i64 c.ins), .x 0 [], .x 6 [], .x 1 [], .x 2 []], .v (.int .i64 k), .agg [.x 3 [], .x 4 [], .x 5 [], .x 7 []]]) 4 (cP s.cp) ?_ ?_ ?_
  · simp [wsL, ws]
  · intro e e0 hv ag
    simp only [List.length_cons, List.length_nil, List.length_append] at hv ag
    simp [denL, den, hv, hs2 e e0 _ ag 0 (by omega), hs2 e e0 _ ag 1 (by omega), hs2 e e0 _ ag 2 (by omega), hs2 e e0 _ ag 3 (by omega), hs2 e e0 _ ag 4 (by omega), hs2 e e0 _ ag 5 (by omega), hs2 e e0 _ ag 6 (by omega)]
  refine FnOk.gcA (args' := [.v (.int .i64 so), .agg [.v (.int .i64 c.fx), .v (.int .i64 c.ad), .v (.int .i64 c.ins), .x 0 [], .x 1 [], .x 2 [], .x 3 []], .v (.int .i64 k), .agg [.x 4 [], .x 5 [], .x 6 [], .x 7 []]]) (h' := [.ext false (.s false 7 c.nodes.length (cN c.nodes)), .ext false (.s false 1 0 (cI c.gates)), .ext false (.s false 2 c.looks.length (cL c.looks)), .ext false (.s false 2 c.eqs.length (cK c.eqs)), .ext false (.s false 1 s.fx.length (cT s.fx)), .ext false (.s false 1 s.ad.length (cT s.ad)), .ext false (.s false 1 s.is.length (cT s.is)), .ext false (.s false 4 0 (cP s.cp))]) [0, 6, 1, 2, 3, 4, 5, 7] (by kernel_rfl) (by kernel_rfl) (by kernel_rfl) ?_
  have := flt_ok c hc s hs so k Q hq
  rw [h1, h7] at this
  rw [h1, h7]
  exact this
noncomputable def g_fnGC : List SV → List HO → Option ((SV → List HO → Prop) → Prop)
  | [.v (.int .i64 so), .agg [.v (.int .i64 fx), .v (.int .i64 ad), .v (.int .i64 ins), .x 0 [], .v (.slice none 0 0), .x 1 [], .x 2 []], .v (.int .i64 k), .agg [.x 3 [], .x 4 [], .x 5 [], .v (.slice none 0 0)]], [.ext false (.s false 7 n0 c0), .ext false (.s false 2 n2 c2), .ext false (.s false 2 n3 c3), .ext false (.s false 1 n4 c4), .ext false (.s false 1 n5 c5), .ext false (.s false 1 n6 c6)] => some fun Q => lF fx ad ins n0 0 n2 n3 n4 n5 n6 0 c0 (cI []) c2 c3 c4 c5 c6 (cP []) fun c s => Q (.tup [.o 0, .v (.int .i64 (fltR c s so k).2)]) [.rowc 76 3 (fltR c s so k).1.length (.fn (cQ (fltR c s so k).1))]
  | _, _ => none
theorem g_fnGC_ok (args : List SV) (h : List HO) (tr : (SV → List HO → Prop) → Prop) (Q : SV → List HO → Prop) (hc : g_fnGC args h = some tr) (ht : tr Q) : FnOk Try.prog 25 args h Q := by
  unfold g_fnGC at hc
  split at hc
  · simp only [Option.some.injEq] at hc
    subst hc
    obtain ⟨c, rfl, rfl, rfl, ⟨rfl, e0⟩, ⟨n1, e1⟩, ⟨rfl, e2⟩, ⟨rfl, e3⟩, hk, ht2⟩ := ht.h.h
    obtain ⟨s, ⟨rfl, e4⟩, ⟨rfl, e5⟩, ⟨rfl, e6⟩, ⟨n7, e7⟩, hs, hq⟩ := ht2.h
    exact FnOk.ac (fnGC_ok c hk s hs _ _ (List.eq_nil_of_length_eq_zero n1.symm) (List.eq_nil_of_length_eq_zero n7.symm) Q hq) ⟨⟨rfl, rfl, rfl, rfl, e0⟩, ⟨rfl, rfl, rfl, rfl, e2⟩, ⟨rfl, rfl, rfl, rfl, e3⟩, ⟨rfl, rfl, rfl, rfl, e4⟩, ⟨rfl, rfl, rfl, rfl, e5⟩, ⟨rfl, rfl, rfl, rfl, e6⟩, trivial⟩
  · cases hc
theorem fnGL_ok (c : Cir) (hc : c.ok) (s : Sht) (hs : s.ok) (so k : Int) (h1 : c.gates = []) (h2 : c.looks = []) (Q : SV → List HO → Prop) (hq : Q (.tup [.o 0, .v (.int .i64 (fltR c s so k).2)]) [.rowc 76 3 (fltR c s so k).1.length (.fn (cQ (fltR c s so k).1))]) : FnOk Try.prog 25 [.v (.int .i64 so), .agg [.v (.int .i64 c.fx), .v (.int .i64 c.ad), .v (.int .i64 c.ins), .x 0 [], .v (.slice none 0 0), .v (.slice none 0 0), .x 1 []], .v (.int .i64 k), .agg [.x 2 [], .x 3 [], .x 4 [], .x 5 []]] [.ext false (.s false 7 c.nodes.length (cN c.nodes)), .ext false (.s false 2 c.eqs.length (cK c.eqs)), .ext false (.s false 1 s.fx.length (cT s.fx)), .ext false (.s false 1 s.ad.length (cT s.ad)), .ext false (.s false 1 s.is.length (cT s.is)), .ext false (.s false 4 s.cp.length (cP s.cp))] Q := by
  have hs2 : ∀ (e e0 : Env) (n : Nat), agree n e0 e → ∀ i, i < n → e.val i [] = e0.val i [] := fun e e0 n ag i hi => by rw [(ag.1 i hi).2.2]
  refine FnOk.nilX (args' := [.v (.int .i64 so), .agg [.v (.int .i64 c.fx), .v (.int .i64 c.ad), .v (.int .i64 c.ins), .x 0 [], .x 6 [], .v (.slice none 0 0), .x 1 []], .v (.int .i64 k), .agg [.x 2 [], .x 3 [], .x 4 [], .x 5 []]]) 1 (cI c.gates) ?_ ?_ ?_
  · simp [wsL, ws]
  · intro e e0 hv ag
    simp only [List.length_cons, List.length_nil] at hv ag
    simp [denL, den, hv, hs2 e e0 _ ag 0 (by omega), hs2 e e0 _ ag 1 (by omega), hs2 e e0 _ ag 2 (by omega), hs2 e e0 _ ag 3 (by omega), hs2 e e0 _ ag 4 (by omega), hs2 e e0 _ ag 5 (by omega)]
  refine FnOk.nilX (args' := [.v (.int .i64 so), .agg [.v (.int .i64 c.fx), .v (.int .i64 c.ad), .v (.int .i64 c.ins), .x 0 [], .x 6 [], .x 7 [], .x 1 []], .v (.int .i64 k), .agg [.x 2 [], .x 3 [], .x 4 [], .x 5 []]]) 2 (cL c.looks) ?_ ?_ ?_
  · simp [wsL, ws]
  · intro e e0 hv ag
    simp only [List.length_cons, List.length_nil, List.length_append] at hv ag
    simp [denL, den, hv, hs2 e e0 _ ag 0 (by omega), hs2 e e0 _ ag 1 (by omega), hs2 e e0 _ ag 2 (by omega), hs2 e e0 _ ag 3 (by omega), hs2 e e0 _ ag 4 (by omega), hs2 e e0 _ ag 5 (by omega), hs2 e e0 _ ag 6 (by omega)]
  refine FnOk.gcA (args' := [.v (.int .i64 so), .agg [.v (.int .i64 c.fx), .v (.int .i64 c.ad), .v (.int .i64 c.ins), .x 0 [], .x 1 [], .x 2 [], .x 3 []], .v (.int .i64 k), .agg [.x 4 [], .x 5 [], .x 6 [], .x 7 []]]) (h' := [.ext false (.s false 7 c.nodes.length (cN c.nodes)), .ext false (.s false 1 0 (cI c.gates)), .ext false (.s false 2 0 (cL c.looks)), .ext false (.s false 2 c.eqs.length (cK c.eqs)), .ext false (.s false 1 s.fx.length (cT s.fx)), .ext false (.s false 1 s.ad.length (cT s.ad)), .ext false (.s false 1 s.is.length (cT s.is)), .ext false (.s false 4 s.cp.length (cP s.cp))]) [0, 6, 7, 1, 2, 3, 4, 5] (by kernel_rfl) (by kernel_rfl) (by kernel_rfl) ?_
  have := flt_ok c hc s hs so k Q hq
  rw [h1, h2] at this
  rw [h1, h2]
  exact this
noncomputable def g_fnGL : List SV → List HO → Option ((SV → List HO → Prop) → Prop)
  | [.v (.int .i64 so), .agg [.v (.int .i64 fx), .v (.int .i64 ad), .v (.int .i64 ins), .x 0 [], .v (.slice none 0 0), .v (.slice none 0 0), .x 1 []], .v (.int .i64 k), .agg [.x 2 [], .x 3 [], .x 4 [], .x 5 []]], [.ext false (.s false 7 n0 c0), .ext false (.s false 2 n3 c3), .ext false (.s false 1 n4 c4), .ext false (.s false 1 n5 c5), .ext false (.s false 1 n6 c6), .ext false (.s false 4 n7 c7)] => some fun Q => lF fx ad ins n0 0 0 n3 n4 n5 n6 n7 c0 (cI []) (cL []) c3 c4 c5 c6 c7 fun c s => Q (.tup [.o 0, .v (.int .i64 (fltR c s so k).2)]) [.rowc 76 3 (fltR c s so k).1.length (.fn (cQ (fltR c s so k).1))]
  | _, _ => none
theorem g_fnGL_ok (args : List SV) (h : List HO) (tr : (SV → List HO → Prop) → Prop) (Q : SV → List HO → Prop) (hc : g_fnGL args h = some tr) (ht : tr Q) : FnOk Try.prog 25 args h Q := by
  unfold g_fnGL at hc
  split at hc
  · simp only [Option.some.injEq] at hc
    subst hc
    obtain ⟨c, rfl, rfl, rfl, ⟨rfl, e0⟩, ⟨n1, e1⟩, ⟨n2, e2⟩, ⟨rfl, e3⟩, hk, ht2⟩ := ht.h.h
    obtain ⟨s, ⟨rfl, e4⟩, ⟨rfl, e5⟩, ⟨rfl, e6⟩, ⟨rfl, e7⟩, hs, hq⟩ := ht2.h
    exact FnOk.ac (fnGL_ok c hk s hs _ _ (List.eq_nil_of_length_eq_zero n1.symm) (List.eq_nil_of_length_eq_zero n2.symm) Q hq) ⟨⟨rfl, rfl, rfl, rfl, e0⟩, ⟨rfl, rfl, rfl, rfl, e3⟩, ⟨rfl, rfl, rfl, rfl, e4⟩, ⟨rfl, rfl, rfl, rfl, e5⟩, ⟨rfl, rfl, rfl, rfl, e6⟩, ⟨rfl, rfl, rfl, rfl, e7⟩, trivial⟩
  · cases hc
noncomputable def orG (g1 g2 : List SV → List HO → Option ((SV → List HO → Prop) → Prop)) : List SV → List HO → Option ((SV → List HO → Prop) → Prop) := fun args h => match g1 args h with
  | some t => some t
  | none => g2 args h
theorem orG_ok {f : FuncId} {g1 g2 : List SV → List HO → Option ((SV → List HO → Prop) → Prop)} (h1 : ∀ args h tr Q, g1 args h = some tr → tr Q → FnOk Try.prog f args h Q) (h2 : ∀ args h tr Q, g2 args h = some tr → tr Q → FnOk Try.prog f args h Q) : ∀ args h tr Q, orG g1 g2 args h = some tr → tr Q → FnOk Try.prog f args h Q := by
  intro args h tr Q hc ht
  unfold orG at hc
  split at hc
  · rename_i t e
    cases hc
    exact h1 args h _ Q e ht
  · exact h2 args h tr Q hc ht
theorem csn_ok (s : Sht) (hs : s.ok) (h0 : s.cp = []) (Q : SV → List HO → Prop) (hq : Q (.agg [.x 0 [], .x 1 [], .x 2 [], .x 3 []]) [.ext false (.s false 1 s.fx.length (cT s.fx)), .ext false (.s false 1 s.ad.length (cT s.ad)), .ext false (.s false 1 s.is.length (cT s.is)), .ext false (.s false 4 s.cp.length (cP s.cp))]) : FnOk Try.prog 21 [.agg [.x 0 [], .x 1 [], .x 2 [], .v (.slice none 0 0)]] [.ext false (.s false 1 s.fx.length (cT s.fx)), .ext false (.s false 1 s.ad.length (cT s.ad)), .ext false (.s false 1 s.is.length (cT s.is))] Q := by
  have hs2 : ∀ (e e0 : Env) (n : Nat), agree n e0 e → ∀ i, i < n → e.val i [] = e0.val i [] := fun e e0 n ag i hi => by rw [(ag.1 i hi).2.2]
  refine FnOk.nilX (args' := [.agg [.x 0 [], .x 1 [], .x 2 [], .x 3 []]]) 4 (cP s.cp) ?_ ?_ ?_
  · simp [wsL, ws]
  · intro e e0 hv ag
    simp only [List.length_cons, List.length_nil] at hv ag
    simp [denL, den, hv, hs2 e e0 _ ag 0 (by omega), hs2 e e0 _ ag 1 (by omega), hs2 e e0 _ ag 2 (by omega)]
  have := cs_ok s hs Q hq
  rw [h0] at this
  rw [h0]
  exact this
noncomputable def gCs2 : List SV → List HO → Option ((SV → List HO → Prop) → Prop)
  | [.agg [.x 0 [], .x 1 [], .x 2 [], .x 3 []]], [.ext false (.s false 1 n0 c0), .ext false (.s false 1 n1 c1), .ext false (.s false 1 n2 c2), .ext false (.s false 4 n3 c3)] =>
    some fun Q => lS n0 n1 n2 n3 c0 c1 c2 c3 fun s => Q (.agg [.x 0 [], .x 1 [], .x 2 [], .x 3 []]) [.ext false (.s false 1 s.fx.length (cT s.fx)), .ext false (.s false 1 s.ad.length (cT s.ad)), .ext false (.s false 1 s.is.length (cT s.is)), .ext false (.s false 4 s.cp.length (cP s.cp))]
  | [.agg [.x 0 [], .x 1 [], .x 2 [], .v (.slice none 0 0)]], [.ext false (.s false 1 n0 c0), .ext false (.s false 1 n1 c1), .ext false (.s false 1 n2 c2)] =>
    some fun Q => lS n0 n1 n2 0 c0 c1 c2 (cP []) fun s => Q (.agg [.x 0 [], .x 1 [], .x 2 [], .x 3 []]) [.ext false (.s false 1 s.fx.length (cT s.fx)), .ext false (.s false 1 s.ad.length (cT s.ad)), .ext false (.s false 1 s.is.length (cT s.is)), .ext false (.s false 4 s.cp.length (cP s.cp))]
  | _, _ => none
theorem gCs2_ok (args : List SV) (h : List HO) (tr : (SV → List HO → Prop) → Prop) (Q : SV → List HO → Prop) (hc : gCs2 args h = some tr) (ht : tr Q) : FnOk Try.prog 21 args h Q := by
  unfold gCs2 at hc
  split at hc
  · simp only [Option.some.injEq] at hc
    subst hc
    obtain ⟨s, ⟨rfl, e0⟩, ⟨rfl, e1⟩, ⟨rfl, e2⟩, ⟨rfl, e3⟩, hs, hq⟩ := ht.h
    exact FnOk.ac (cs_ok s hs Q hq) ⟨⟨rfl, rfl, rfl, rfl, e0⟩, ⟨rfl, rfl, rfl, rfl, e1⟩, ⟨rfl, rfl, rfl, rfl, e2⟩, ⟨rfl, rfl, rfl, rfl, e3⟩, trivial⟩
  · simp only [Option.some.injEq] at hc
    subst hc
    obtain ⟨s, ⟨rfl, e0⟩, ⟨rfl, e1⟩, ⟨rfl, e2⟩, ⟨n3, e3⟩, hs, hq⟩ := ht.h
    exact FnOk.ac (csn_ok s hs (List.eq_nil_of_length_eq_zero n3.symm) Q hq) ⟨⟨rfl, rfl, rfl, rfl, e0⟩, ⟨rfl, rfl, rfl, rfl, e1⟩, ⟨rfl, rfl, rfl, rfl, e2⟩, trivial⟩
  · cases hc
noncomputable def K84 : Con Try.prog := (K83.add 25 (orG gFlt (orG g_fnL (orG g_fnGC g_fnGL))) (orG_ok gFlt_ok (orG_ok g_fnL_ok (orG_ok g_fnGC_ok g_fnGL_ok)))).add 21 gCs2 gCs2_ok
end Go.Proofs.Ytlmjdcbhpffanaa
/- SheetParts: the law and the walk. -/
namespace Go.Pl
open Go.Sx
/-- A circuit with other gates and lookups. -/
def subC (c : Cir) (gs : List Int) (ls : List (List Int × List Int)) : Cir := ⟨c.fx, c.ad, c.ins, c.nodes, gs, ls, c.eqs⟩
/-- A sheet without copies. -/
def noS (s : Sht) : Sht := ⟨s.fx, s.ad, s.is, []⟩
theorem eqF_subC (c : Cir) (gs : List Int) (ls : List (List Int × List Int)) : ∀ (l s : List (Int × Int)), eqF (subC c gs ls) s l = eqF c s l
  | [], _ => rfl
  | y :: r, s => by
    rw [eqF, eqF, eqF_subC c gs ls r]; rfl
theorem chkC_sub {c : Cir} (h : chkC c = 0) {gs : List Int} {ls : List (List Int × List Int)} (hg : ∀ g ∈ gs, g ∈ c.gates) (hgl : gs.length ≤ c.gates.length) (hl : ∀ l ∈ ls, l ∈ c.looks) (hll : ls.length ≤ c.looks.length) : chkC (subC c gs ls) = 0 := by
  obtain ⟨h0, hgood⟩ := chkC_zero h
  obtain ⟨g1, g2, g3, g4, g5⟩ := goodB_all hgood
  have g6 : cntOk c := of_decide_eq_true g1
  have e1 : cntB (subC c gs ls) = true := decide_eq_true ⟨g6.1, g6.2.1, g6.2.2.1, g6.2.2.2.1, by
    obtain ⟨a, b, d⟩ := g6.2.2.2.2
    exact ⟨Nat.le_trans hgl a, Nat.le_trans hll b, d⟩⟩
  have e2 : (subC c gs ls).gates.any (fun n => !placeB (subC c gs ls) n) = false := List.any_eq_false.2 fun x hx => List.any_eq_false.1 g2 x (hg x hx)
  have e3 : (subC c gs ls).looks.any (fun x => !lookB (subC c gs ls) x) = false := List.any_eq_false.2 fun x hx => List.any_eq_false.1 g3 x (hl x hx)
  have e4 : eqF (subC c gs ls) [] (subC c gs ls).eqs = true := (eqF_subC c gs ls _ _).trans g4
  have e5 : degP (subC c gs ls) (degrees c.nodes) ≤ 8 := by
    obtain ⟨⟨d1, d2⟩, d3⟩ := degP_le.1 g5
    refine degP_le.2 ⟨⟨Int.le_trans ?_ d1, ?_⟩, fun x hx => d3 x (hl x hx)⟩
    · show (if 0 < ls.length + c.eqs.length then (4 : Int) else 3) ≤ if 0 < c.looks.length + c.eqs.length then 4 else 3
      split <;> split <;> omega
    · have a := gtN_le.1 (Int.le_refl (gtN (degrees c.nodes) c.gates))
      have b : gtN (degrees c.nodes) gs ≤ gtN (degrees c.nodes) c.gates := gtN_le.2 ⟨a.1, fun g hh => a.2 g (hg g hh)⟩
      show gtN (degrees c.nodes) gs + 1 ≤ 8
      omega
  have e : goodB (subC c gs ls) = true := by
    rw [goodB, e1, e2, e3, e4, decide_eq_true (show degP (subC c gs ls) (degrees (subC c gs ls).nodes) ≤ 8 from e5)]; rfl
  rw [chkC, if_pos (show chkN (subC c gs ls).nodes (subC c gs ls).fx (subC c gs ls).ad (subC c gs ls).ins = 0 from h0), e]; rfl
theorem fitV_mk {c : Cir} {k : Int} {s : Sht} (h0 : chkC c = 0) (h1 : 3 ≤ k) (h2 : k ≤ 5) (h3 : wrT c.fx (usN k) s.fx = false) (h4 : wrT c.ad (usN k) s.ad = false) (h5 : wrT c.ins (usN k) s.is = false) (h6 : wrP c.eqs.length (usN k) s.cp = false) : fitV c k s = 0 := by
  rw [fitV, if_neg (fun h => h h0), if_neg (by omega), if_neg (by omega), h3, h4, h5, h6]; rfl
theorem subC_ok {c : Cir} (h : c.ok) {gs : List Int} {ls : List (List Int × List Int)} (hg : ∀ g ∈ gs, g ∈ c.gates) (hgl : gs.length ≤ c.gates.length) (hl : ∀ l ∈ ls, l ∈ c.looks) (hll : ls.length ≤ c.looks.length) : (subC c gs ls).ok where
  f := h.f
  a := h.a
  i := h.i
  n := h.n
  g := ⟨fun x hx => h.g.1 x (hg x hx), by have := h.g.2; show gs.length * 8 ≤ _; omega⟩
  l := ⟨fun x hx => h.l.1 x (hl x hx), by have := h.l.2; show ls.length * 48 ≤ _; omega⟩
  e := h.e
theorem noS_ok {s : Sht} (h : s.ok) : (noS s).ok where
  f := h.f
  a := h.a
  i := h.i
  c := ⟨fun x hx => (by cases hx), by show ([] : List (Int × Int × Int × Int)).length * 32 ≤ _; decide⟩
theorem gatesF_sub {c : Cir} (h : chkC c = 0) {gs : List Int} {ls : List (List Int × List Int)} (h2 : chkC (subC c gs ls) = 0) (k : Int) (rows : List (List Nat)) : ∀ (l : List Int) (i : Int), gatesF (subC c gs ls) k rows i l = gatesF c k rows i l
  | [], _ => rfl
  | g :: t, i => by
    have e : rowsV (subC c gs ls) k g = rowsV c k g := by
      rw [rowsV, rowsV, h, h2]; rfl
    rw [gatesF, gatesF, gatesF_sub h h2 k rows t, e]
theorem copF_sub (c : Cir) (s : Sht) (so : Int) (gs : List Int) (ls : List (List Int × List Int)) : ∀ (l : List (Int × Int × Int × Int)) (i : Int), copF (subC c gs ls) s so i l = copF c s so i l
  | [], _ => rfl
  | x :: t, i => by
    rw [copF, copF, copF_sub c s so gs ls t]; rfl
theorem rowsA_sub (c : Cir) (s : Sht) (so k : Int) (gs : List Int) (ls : List (List Int × List Int)) (n : Nat) : rowsA (subC c gs ls) s so k n = rowsA c s so k n := rfl
theorem rowsA_no (c : Cir) (s : Sht) (so k : Int) (n : Nat) : rowsA c (noS s) so k n = rowsA c s so k n := rfl
theorem fltR_zero {c : Cir} {s : Sht} {so k : Int} (h : (fltR c s so k).2 = 0) : fE so = 0 ∧ fitV c k s = 0 := by
  rw [fltR] at h
  by_cases h0 : fE so = 0
  · rw [if_neg (fun hh => hh h0)] at h
    by_cases h1 : fitV c k s = 0
    · exact ⟨h0, h1⟩
    · rw [if_pos h1] at h; exact absurd h h1
  · rw [if_pos h0] at h; exact absurd h h0
theorem fltR_right {c : Cir} {s : Sht} {so k : Int} (h0 : fE so = 0) (h1 : fitV c k s = 0) : fltR c s so k = (fltV c s so k, 0) := by
  rw [fltR, if_neg (fun h => h h0), if_neg (fun h => h h1)]
theorem cQ_app (a b : List (Int × Int × Int)) : IsC (a.length + b.length) 3 (appC a.length (cQ a) (cQ b)) (cQ (a ++ b)) := ofL_app qCell dQ 3 a b
end Go.Pl
namespace Go.Proofs.Ytlmjdcbhpffanaa
open Go.Sx Go.Pl
set_option linter.unusedVariables false
set_option maxRecDepth 100000
theorem shpS (c : Cir) (s : Sht) (so k : Int) (K : List It → St → Prop) (R : SV → List HO → Prop) : W (xwp Try.prog X K84 [] 60 (fxOf Try.f7 [] []) [] [.at []] ⟨argsS 0 [.v (.int .i64 so), .agg [.v (.int .i64 c.fx), .v (.int .i64 c.ad), .v (.int .i64 c.ins), .x 0 [], .x 1 [], .x 2 [], .x 3 []], .v (.int .i64 k), .agg [.x 4 [], .x 5 [], .x 6 [], .x 7 []]], [.ext false (.s false 7 c.nodes.length (cN c.nodes)), .ext false (.s false 1 c.gates.length (cI c.gates)), .ext false (.s false 2 c.looks.length (cL c.looks)), .ext false (.s false 2 c.eqs.length (cK c.eqs)), .ext false (.s false 1 s.fx.length (cT s.fx)), .ext false (.s false 1 s.ad.length (cT s.ad)), .ext false (.s false 1 s.is.length (cT s.is)), .ext false (.s false 4 s.cp.length (cP s.cp))]⟩ K R) = W (lF c.1 c.2 c.3 (List.length c.4) (List.length c.5) (List.length c.6) (List.length c.7) (List.length s.1) (List.length s.2) (List.length s.3) (List.length s.4) (cN c.4) (cI c.5) (cL c.6) (cK c.7) (cT s.1) (cT s.2) (cT s.3) (cP s.4) fun (c_1 : Cir) (s_1 : Sht) => bif great13 c_1 s_1 then R (SV.v (Value.bool true)) [] else lC c.1 c.2 c.3 (List.length c.4) (List.length c.5) (List.length c.6) (List.length c.7) (cN c.4) (cI c.5) (cL c.6) (cK c.7) fun (c_2 : Cir) => lS (List.length s.1) (List.length s.2) (List.length s.3) (List.length s.4) (cT s.1) (cT s.2) (cT s.3) (cP s.4) fun (s_2 : Sht) => lF c_2.1 c_2.2 c_2.3 (List.length c_2.4) (List.length c_2.5) (List.length c_2.6) (List.length c_2.7) (List.length s_2.1) (List.length s_2.2) (List.length s_2.3) (List.length s_2.4) (cN c_2.4) (cI c_2.5) (cL c_2.6) (cK c_2.7) (cT s_2.1) (cT s_2.2) (cT s_2.3) (cP s_2.4) fun (c_3 : Cir) (s_3 : Sht) => bif !(fltR c_3 s_3 so k).2 == (0 : Int) then R (SV.v (Value.bool true)) [] else lC c.1 c.2 c.3 (List.length c.4) (List.length c.5) (List.length c.6) (List.length c.7) (cN c.4) (cI c.5) (cL c.6) (cK c.7) fun (c_4 : Cir) => (∀ (M : Mem), 0 + 7 ≤ 7) ∧ (∀ (M : Mem), 6 ≤ 7) ∧ lC c.1 c.2 c.3 (List.length c.4) (List.length c.5) (List.length c.6) (List.length c.7) (cN c.4) (cI c.5) (cL c.6) (cK c.7) fun (c_5 : Cir) => (∀ (M : Mem), 0 + 7 ≤ 7) ∧ (∀ (M : Mem), 5 ≤ 7) ∧ lS (List.length s.1) (List.length s.2) (List.length s.3) (List.length s.4) (cT s.1) (cT s.2) (cT s.3) (cP s.4) fun (s_4 : Sht) => (∀ (M : Mem), 0 + 4 ≤ 4) ∧ (∀ (M : Mem), 4 ≤ 4) ∧ lC c.1 c.2 c.3 (List.length c.4) (List.length c.5) (List.length c.6) (List.length c.7) (cN c.4) (cI c.5) (cL c.6) (cK c.7) fun (c : Cir) => (∀ (M : Mem), 0 + 7 ≤ 7) ∧ (∀ (M : Mem), 5 ≤ 7) ∧ (∀ (M : Mem), 6 ≤ 7) ∧ lS (List.length s_4.1) (List.length s_4.2) (List.length s_4.3) 0 (cT s_4.1) (cT s_4.2) (cT s_4.3) (cP []) fun (s_5 : Sht) => lF c_4.1 c_4.2 c_4.3 (List.length c_4.4) (List.length c_4.5) 0 (List.length c_4.7) (List.length s_5.1) (List.length s_5.2) (List.length s_5.3) (List.length s_5.4) (cN c_4.4) (cI c_4.5) (cL []) (cK c_4.7) (cT s_5.1) (cT s_5.2) (cT s_5.3) (cP s_5.4) fun (c_6 : Cir) (s_6 : Sht) => lF c_5.1 c_5.2 c_5.3 (List.length c_5.4) 0 (List.length c_5.6) (List.length c_5.7) (List.length s_4.1) (List.length s_4.2) (List.length s_4.3) 0 (cN c_5.4) (cI []) (cL c_5.6) (cK c_5.7) (cT s_4.1) (cT s_4.2) (cT s_4.3) (cP []) fun (c_7 : Cir) (s_7 : Sht) => lS (List.length s.1) (List.length s.2) (List.length s.3) (List.length s.4) (cT s.1) (cT s.2) (cT s.3) (cP s.4) fun (s : Sht) => lF c.1 c.2 c.3 (List.length c.4) 0 0 (List.length c.7) (List.length s.1) (List.length s.2) (List.length s.3) (List.length s.4) (cN c.4) (cI []) (cL []) (cK c.7) (cT s.1) (cT s.2) (cT s.3) (cP s.4) fun (c : Cir) (s : Sht) => (∀ (M : Mem), (0 + List.length (fltR c_6 s_6 so k).1) * 24 ≤ 140737488355328 ∧ 0 + List.length (fltR c_6 s_6 so k).1 ≤ 140737488355328) ∧ (∀ (M : Mem), (0 + List.length (fltR c_6 s_6 so k).1 + List.length (fltR c_7 s_7 so k).1) * 24 ≤ 140737488355328 ∧ 0 + List.length (fltR c_6 s_6 so k).1 + List.length (fltR c_7 s_7 so k).1 ≤ 140737488355328) ∧ (∀ (M : Mem), (0 + List.length (fltR c_6 s_6 so k).1 + List.length (fltR c_7 s_7 so k).1 + List.length (fltR c s so k).1) * 24 ≤ 140737488355328 ∧ 0 + List.length (fltR c_6 s_6 so k).1 + List.length (fltR c_7 s_7 so k).1 + List.length (fltR c s so k).1 ≤ 140737488355328) ∧ lQ2 (0 + List.length (fltR c_6 s_6 so k).1 + List.length (fltR c_7 s_7 so k).1 + List.length (fltR c s so k).1) (List.length (fltR c_3 s_3 so k).1) (appC (0 + List.length (fltR c_6 s_6 so k).1 + List.length (fltR c_7 s_7 so k).1) (appC (0 + List.length (fltR c_6 s_6 so k).1) (appC 0 (lc 3 []) (cQ (fltR c_6 s_6 so k).1)) (cQ (fltR c_7 s_7 so k).1)) (cQ (fltR c s so k).1)) (cQ (fltR c_3 s_3 so k).1) fun (l l2 : List (Int × Int × Int)) => R (SV.v (Value.bool (decide (l = l2)))) []) := by kernel_rfl
theorem bShp : Try.f7.body.isSome = true := by kernel_rfl
theorem nShp (c : Cir) (so k : Int) : Nat.ble ([.v (.int .i64 so), .agg [.v (.int .i64 c.fx), .v (.int .i64 c.ad), .v (.int .i64 c.ins), .x 0 [], .x 1 [], .x 2 [], .x 3 []], .v (.int .i64 k), .agg [.x 4 [], .x 5 [], .x 6 [], .x 7 []]] : List SV).length Try.f7.ntmps = true := by kernel_rfl
theorem sparts_ok (c : Cir) (hc : c.ok) (s : Sht) (hs : s.ok) (so k : Int) (Q : SV → List HO → Prop) (hq : Q (.v (.bool true)) []) : FnOk Try.prog 7 [.v (.int .i64 so), .agg [.v (.int .i64 c.fx), .v (.int .i64 c.ad), .v (.int .i64 c.ins), .x 0 [], .x 1 [], .x 2 [], .x 3 []], .v (.int .i64 k), .agg [.x 4 [], .x 5 [], .x 6 [], .x 7 []]] [.ext false (.s false 7 c.nodes.length (cN c.nodes)), .ext false (.s false 1 c.gates.length (cI c.gates)), .ext false (.s false 2 c.looks.length (cL c.looks)), .ext false (.s false 2 c.eqs.length (cK c.eqs)), .ext false (.s false 1 s.fx.length (cT s.fx)), .ext false (.s false 1 s.ad.length (cT s.ad)), .ext false (.s false 1 s.is.length (cT s.is)), .ext false (.s false 4 s.cp.length (cP s.cp))] Q := by
  refine fn_of_ok Try.func7 bShp ?_ ?_
  · exact nShp c so k
  refine run_sound hm 60 ((shpS c s so k _ _).mpr ⟨?_⟩)
  refine lF_mk c hc s hs (cond_intro (fun _ => hq) (fun _ => lC_mk c hc (lS_mk s hs (lF_mk c hc s hs ?_))))
  rw [cond_not, cond_beq]
  refine ite_intro (fun hz => ?_) (fun _ => hq)
  obtain ⟨h0, h1⟩ := fltR_zero hz
  obtain ⟨k0, k3, k5, w1, w2, w3, w4⟩ := fitV_zero h1
  have no1 : ∀ g ∈ ([] : List Int), g ∈ c.gates := fun g hg => (by cases hg)
  have no2 : ∀ g ∈ ([] : List (List Int × List Int)), g ∈ c.looks := fun g hg => (by cases hg)
  have wn : wrP c.eqs.length (usN k) [] = false := rfl
  have cg := chkC_sub k0 (gs := c.gates) (ls := []) (fun _ h => h) (Nat.le_refl _) no2 (Nat.zero_le _)
  have cl := chkC_sub k0 (gs := []) (ls := c.looks) no1 (Nat.zero_le _) (fun _ h => h) (Nat.le_refl _)
  have cp := chkC_sub k0 (gs := []) (ls := []) no1 (Nat.zero_le _) no2 (Nat.zero_le _)
  have og := subC_ok hc (gs := c.gates) (ls := []) (fun _ h => h) (Nat.le_refl _) no2 (Nat.zero_le _)
  have ol := subC_ok hc (gs := []) (ls := c.looks) no1 (Nat.zero_le _) (fun _ h => h) (Nat.le_refl _)
  have op := subC_ok hc (gs := []) (ls := []) no1 (Nat.zero_le _) no2 (Nat.zero_le _)
  have fg : fitV (subC c c.gates []) k (noS s) = 0 := fitV_mk cg k3 k5 w1 w2 w3 wn
  have fl : fitV (subC c [] c.looks) k (noS s) = 0 := fitV_mk cl k3 k5 w1 w2 w3 wn
  have fp : fitV (subC c [] []) k s = 0 := fitV_mk cp k3 k5 w1 w2 w3 w4
  have hp := (cps_in h1).1
  have l1 := fltV_len (so := so) (s := noS s) cg k5 (Nat.zero_le _)
  have l2 := fltV_len (so := so) (s := noS s) cl k5 (Nat.zero_le _)
  have l3 := fltV_len (so := so) (s := s) cp k5 hp
  refine lC_mk c hc (And.intro (fun _ => by omega) (And.intro (fun _ => by omega) (lC_mk c hc (And.intro (fun _ => by omega) (And.intro (fun _ => by omega) (lS_mk s hs (And.intro (fun _ => by omega) (And.intro (fun _ => by omega) (lC_mk c hc (And.intro (fun _ => by omega) (And.intro (fun _ => by omega) (And.intro (fun _ => by omega) ?_))))))))))))
  refine lS_mk (noS s) (noS_ok hs) (lF_mk (subC c c.gates []) og (noS s) (noS_ok hs) (lF_mk (subC c [] c.looks) ol (noS s) (noS_ok hs) (lS_mk s hs (lF_mk (subC c [] []) op s hs ?_))))
  rw [fltR_right h0 fg, fltR_right h0 fl, fltR_right h0 fp, fltR_right h0 h1]
  dsimp only
  refine And.intro (fun _ => by omega) (And.intro (fun _ => by omega) (And.intro (fun _ => by omega) ?_))
  have e : fltV (subC c c.gates []) (noS s) so k ++ fltV (subC c [] c.looks) (noS s) so k ++ fltV (subC c [] []) s so k = fltV c s so k := by
    rw [fltV, fltV, fltV, fltV, rowsA_sub, rowsA_sub, rowsA_sub, rowsA_no]
    show (gatesF (subC c c.gates []) k _ 0 c.gates ++ ([] ++ [])) ++ ([] ++ (looksF _ 0 c.looks ++ [])) ++ ([] ++ ([] ++ copF (subC c [] []) s so 0 s.cp)) = _
    rw [gatesF_sub k0 cg, copF_sub]
    simp
  simp only [Nat.zero_add]
  refine ⟨⟨fltV (subC c c.gates []) (noS s) so k ++ fltV (subC c [] c.looks) (noS s) so k ++ fltV (subC c [] []) s so k, fltV c s so k, ?_, ?_, rfl, IsC.refl _ _ _, ?_, ?_⟩⟩
  · rw [List.length_append, List.length_append]
  · refine IsC.trans (IsC.app (IsC.trans (IsC.app ?_ (IsC.refl _ _ _)) (cQ_app _ _)) (IsC.refl _ _ _)) ?_
    · exact fun k hk j hj => appC_ge _ _ _ (Nat.zero_le _)
    · have := cQ_app (fltV (subC c c.gates []) (noS s) so k ++ fltV (subC c [] c.looks) (noS s) so k) (fltV (subC c [] []) s so k)
      rw [List.length_append] at this
      exact this
  · rw [List.length_append, List.length_append]; omega
  · rw [e, decide_eq_true rfl]
    exact hq
end Go.Proofs.Ytlmjdcbhpffanaa
