/- The texts Z51 .. Z63 of this proof, one behind the other. -/
import Derived.Test.YtpghmnpbfaichaaM3
/- The checker: the degree. -/
namespace Go.Pl
open Go.Sx
def mxI (a b : Int) : Int := if a < b then b else a
def baseN (c : Cir) : Int := if 0 < c.looks.length + c.eqs.length then 4 else 3
/-- The degree, whether it is right or not. -/
def degP (c : Cir) (dg : List Int) : Int := c.looks.foldl (fun d l => mxI d (2 + gtN dg l.1 + gtN dg l.2)) (mxI (baseN c) (gtN dg c.gates + 1))
/-- Places that are there, degrees within bounds. -/
structure degOk (c : Cir) (dg : List Int) : Prop where
  g : ∀ g ∈ c.gates, 0 ≤ g ∧ g < (dg.length : Int)
  l : ∀ x ∈ c.looks, (∀ g ∈ x.1, 0 ≤ g ∧ g < (dg.length : Int)) ∧ ∀ g ∈ x.2, 0 ≤ g ∧ g < (dg.length : Int)
  d : ∀ y ∈ dg, 0 ≤ y ∧ y ≤ 1000
theorem gI_bnd {dg : List Int} (h : ∀ y ∈ dg, 0 ≤ y ∧ y ≤ 1000) (k : Nat) : 0 ≤ gI dg k ∧ gI dg k ≤ 1000 := by
  by_cases hk : k < dg.length
  · exact h _ (gI_mem hk)
  · rw [gI, List.getD_eq_getElem?_getD, List.getElem?_eq_none (by omega)]
    exact ⟨Int.le_refl _, by decide⟩
theorem gtN_bnd {dg : List Int} (h : ∀ y ∈ dg, 0 ≤ y ∧ y ≤ 1000) (l : List Int) : 0 ≤ gtN dg l ∧ gtN dg l ≤ 1000 := by
  have : ∀ (l : List Int) (m : Int), 0 ≤ m ∧ m ≤ 1000 → 0 ≤ l.foldl (fun m g => if m < gI dg g.toNat then gI dg g.toNat else m) m ∧ l.foldl (fun m g => if m < gI dg g.toNat then gI dg g.toNat else m) m ≤ 1000 := by
    intro l
    induction l with
    | nil => intro m hm; exact hm
    | cons g r ih =>
      intro m hm
      rw [List.foldl_cons]
      refine ih _ ?_
      split
      · exact gI_bnd h _
      · exact hm
  exact this l 0 (by omega)
theorem foldl_takeL {α : Type} (f : α → List Int × List Int → α) (a : α) {l : List (List Int × List Int)} {k : Nat} (h : k < l.length) : (l.take (k + 1)).foldl f a = f ((l.take k).foldl f a) (gL l k) := by
  rw [List.take_add_one, List.getElem?_eq_getElem h, List.foldl_append, gL, List.getD_eq_getElem?_getD, List.getElem?_eq_getElem h]; rfl
end Go.Pl
namespace Go.Proofs.Ytpghmnpbfaichaa
open Go.Sx Go.Pl
set_option linter.unusedVariables false
set_option maxRecDepth 100000
theorem dgeR (b0 b1 b4 : Bool) (c : Cir) (dg : List Int) (m : Int) (k M : Nat) (K : List It → St → Prop) (R : SV → List HO → Prop) : W (xwp Try.prog X K50 [] 60 (fxOf Try.f60 [] [⟨[0,1,0,1,1,1,1], [28,27,26,3,1], []⟩]) [] (.at [0,0,1,0,1,1,1,1] :: .rnd [0,0,1,0,1,1,1,1] M :: [.blk 0, .at [1,1,1,1,1]]) ⟨[(28, .v (.int .i64 (k : Int))), (27, .v (.int .i64 (c.looks.length : Int))), (26, .x 0 []), (3, .v (.int .i64 m)), (1, .p 1 0)], [.ext false (.s false 2 c.looks.length (cL c.looks)), .cells [.v (.int .i64 c.fx), .v (.int .i64 c.ad), .v (.int .i64 c.ins), .x 2 [], .x 3 [], .x 0 [], .x 4 [], .x 5 []] 86, .ext b0 (.s false 7 c.nodes.length (cN c.nodes)), .ext b1 (.s false 1 c.gates.length (cI c.gates)), .ext false (.s false 2 c.eqs.length (cK c.eqs)), .ext b4 (.s false 1 dg.length (cI dg))]⟩ K R) = W (bif decide ((↑k : Int) < (↑(List.length c.6) : Int)) then (∀ (M : Mem), (0 : Int) ≤ (↑k : Int) ∧ (↑k : Int) < (↑(List.length c.6) : Int)) ∧ (∀ (M : Mem), k < List.length c.6) ∧ (∀ (M : Mem), 0 + 2 ≤ 2) ∧ (∀ (M : Mem), k < List.length c.6) ∧ lH c.1 c.2 c.3 (List.length c.4) (List.length c.5) (List.length c.6) (List.length c.7) (List.length dg) (cN c.4) (cI c.5) (cL c.6) (cK c.7) (cI dg) fun (c_1 : Cir) (dg_1 : List Int) => lG (List.length dg_1) (List.length (gL c.6 k).1) (cI (gL c.6 k).1) fun (l : List Int) => (∀ (M : Mem), k < List.length c.6) ∧ lH c.1 c.2 c.3 (List.length c.4) (List.length c.5) (List.length c.6) (List.length c.7) (List.length dg) (cN c.4) (cI c.5) (cL c.6) (cK c.7) (cI dg) fun (c_2 : Cir) (dg_2 : List Int) => lG (List.length dg_2) (List.length (gL c.6 k).2) (cI (gL c.6 k).2) fun (l_1 : List Int) => K [It.rnd [0, 0, 1, 0, 1, 1, 1, 1] M, It.blk 0, It.at [1, 1, 1, 1, 1]] (St.mk [(28, SV.v (vi64 (IntKind.wrap IntKind.i64 ((↑k : Int) + (1 : Int))))), (27, SV.v (vi64 (↑(List.length c.6) : Int))), (26, SV.x 0 []), (3, SV.v (vi64 (if m < IntKind.wrap IntKind.i64 (IntKind.wrap IntKind.i64 ((2 : Int) + gtN dg_1 l) + gtN dg_2 l_1) then IntKind.wrap IntKind.i64 (IntKind.wrap IntKind.i64 ((2 : Int) + gtN dg_1 l) + gtN dg_2 l_1) else m))), (1, SV.p 1 0)] [HO.ext false (Cell.s false 2 (List.length c.6) (cL c.6)), HO.cells [SV.v (vi64 c.1), SV.v (vi64 c.2), SV.v (vi64 c.3), SV.x 2 [], SV.x 3 [], SV.x 0 [], SV.x 4 [], SV.x 5 []] 86, HO.ext b0 (Cell.s false 7 (List.length c.4) (cN c.4)), HO.ext b1 (Cell.s false 1 (List.length c.5) (cI c.5)), HO.ext false (Cell.s false 2 (List.length c.7) (cK c.7)), HO.ext b4 (Cell.s false 1 (List.length dg) (cI dg))]) else R (SV.v (vi64 m)) []) := by kernel_rfl
theorem dgeS (b0 b1 b4 : Bool) (c : Cir) (dg : List Int) (K : List It → St → Prop) (R : SV → List HO → Prop) : W (xwp Try.prog X K50 [] 60 (fxOf Try.f60 [] [⟨[0,1,0,1,1,1,1], [28,27,26,3,1], []⟩]) [] [.at []] ⟨argsS 0 [.agg [.v (.int .i64 c.fx), .v (.int .i64 c.ad), .v (.int .i64 c.ins), .x 0 [], .x 1 [], .x 2 [], .x 3 [], .x 4 []]], [.ext b0 (.s false 7 c.nodes.length (cN c.nodes)), .ext b1 (.s false 1 c.gates.length (cI c.gates)), .ext false (.s false 2 c.looks.length (cL c.looks)), .ext false (.s false 2 c.eqs.length (cK c.eqs)), .ext b4 (.s false 1 dg.length (cI dg))]⟩ K R) = W (bif decide ((0 : Int) < IntKind.wrap IntKind.i64 ((↑(List.length c.6) : Int) + (↑(List.length c.7) : Int))) then lH c.1 c.2 c.3 (List.length c.4) (List.length c.5) (List.length c.6) (List.length c.7) (List.length dg) (cN c.4) (cI c.5) (cL c.6) (cK c.7) (cI dg) fun (c_1 : Cir) (dg_1 : List Int) => lG (List.length dg_1) (List.length c.5) (cI c.5) fun (l : List Int) => K [It.at [0, 1, 0, 1, 1, 1, 1], It.blk 0, It.at [1, 1, 1, 1, 1]] (St.mk [(28, SV.v (vi64 (0 : Int))), (27, SV.v (vi64 (↑(List.length c.6) : Int))), (26, SV.x 0 []), (3, SV.v (vi64 (if (4 : Int) < IntKind.wrap IntKind.i64 (gtN dg_1 l + (1 : Int)) then IntKind.wrap IntKind.i64 (gtN dg_1 l + (1 : Int)) else (4 : Int)))), (1, SV.p 1 0)] [HO.ext false (Cell.s false 2 (List.length c.6) (cL c.6)), HO.cells [SV.v (vi64 c.1), SV.v (vi64 c.2), SV.v (vi64 c.3), SV.x 2 [], SV.x 3 [], SV.x 0 [], SV.x 4 [], SV.x 5 []] 86, HO.ext b0 (Cell.s false 7 (List.length c.4) (cN c.4)), HO.ext b1 (Cell.s false 1 (List.length c.5) (cI c.5)), HO.ext false (Cell.s false 2 (List.length c.7) (cK c.7)), HO.ext b4 (Cell.s false 1 (List.length dg) (cI dg))]) else lH c.1 c.2 c.3 (List.length c.4) (List.length c.5) (List.length c.6) (List.length c.7) (List.length dg) (cN c.4) (cI c.5) (cL c.6) (cK c.7) (cI dg) fun (c_1 : Cir) (dg_1 : List Int) => lG (List.length dg_1) (List.length c.5) (cI c.5) fun (l : List Int) => K [It.at [0, 1, 0, 1, 1, 1, 1], It.blk 0, It.at [1, 1, 1, 1, 1]] (St.mk [(28, SV.v (vi64 (0 : Int))), (27, SV.v (vi64 (↑(List.length c.6) : Int))), (26, SV.x 0 []), (3, SV.v (vi64 (if (3 : Int) < IntKind.wrap IntKind.i64 (gtN dg_1 l + (1 : Int)) then IntKind.wrap IntKind.i64 (gtN dg_1 l + (1 : Int)) else (3 : Int)))), (1, SV.p 1 0)] [HO.ext false (Cell.s false 2 (List.length c.6) (cL c.6)), HO.cells [SV.v (vi64 c.1), SV.v (vi64 c.2), SV.v (vi64 c.3), SV.x 2 [], SV.x 3 [], SV.x 0 [], SV.x 4 [], SV.x 5 []] 86, HO.ext b0 (Cell.s false 7 (List.length c.4) (cN c.4)), HO.ext b1 (Cell.s false 1 (List.length c.5) (cI c.5)), HO.ext false (Cell.s false 2 (List.length c.7) (cK c.7)), HO.ext b4 (Cell.s false 1 (List.length dg) (cI dg))])) := by kernel_rfl
theorem dge_loop (b0 b1 b4 : Bool) (c : Cir) (dg : List Int) (hc : c.ok) (ho : degOk c dg) (Q : SV → List HO → Prop) (hq : Q (.v (.int .i64 (degP c dg))) []) : ∀ (d k : Nat) (m : Int), k + d = c.looks.length → m = (c.looks.take k).foldl (fun d l => mxI d (2 + gtN dg l.1 + gtN dg l.2)) (mxI (baseN c) (gtN dg c.gates + 1)) →
    FOk Try.prog Try.f60 Q (.rnd [0,0,1,0,1,1,1,1] (d + 1) :: [.blk 0, .at [1,1,1,1,1]]) ⟨[(28, .v (.int .i64 (k : Int))), (27, .v (.int .i64 (c.looks.length : Int))), (26, .x 0 []), (3, .v (.int .i64 m)), (1, .p 1 0)], [.ext false (.s false 2 c.looks.length (cL c.looks)), .cells [.v (.int .i64 c.fx), .v (.int .i64 c.ad), .v (.int .i64 c.ins), .x 2 [], .x 3 [], .x 0 [], .x 4 [], .x 5 []] 86, .ext b0 (.s false 7 c.nodes.length (cN c.nodes)), .ext b1 (.s false 1 c.gates.length (cI c.gates)), .ext false (.s false 2 c.eqs.length (cK c.eqs)), .ext b4 (.s false 1 dg.length (cI dg))]⟩
  | 0, k, m, hd, he => by
    refine FOk.rnd (run_sound hm 60 ((dgeR b0 b1 b4 c dg m k 0 _ _).mpr ⟨?_⟩))
    rw [cond_dec, if_neg (by omega)]
    rw [show k = c.looks.length by omega, List.take_length] at he
    rw [he]
    exact hq
  | d + 1, k, m, hd, he => by
    have hk : k < c.looks.length := by omega
    have h1 := hc.l.2
    obtain ⟨⟨_, g1⟩, ⟨_, g2⟩⟩ := hc.l.1 _ (gL_mem hk)
    obtain ⟨o1, o2⟩ := ho.l _ (gL_mem hk)
    have t1 := gtN_bnd ho.d (gL c.looks k).1
    have t2 := gtN_bnd ho.d (gL c.looks k).2
    refine FOk.rnd (run_sound hm 60 ((dgeR b0 b1 b4 c dg m k (d + 1) _ _).mpr ⟨?_⟩))
    rw [cond_dec, if_pos (by omega), wrap_inc _ (by omega)]
    refine And.intro (fun _ => by omega) (And.intro (fun _ => by omega) (And.intro (fun _ => by omega) (And.intro (fun _ => by omega) (lH_mk c dg hc ⟨⟨_, rfl, IsC.refl _ _ _, by omega, o1, And.intro (fun _ => hk) (lH_mk c dg hc ⟨⟨_, rfl, IsC.refl _ _ _, by omega, o2, ?_⟩⟩)⟩⟩))))
    rw [wrap_in (2 + gtN dg (gL c.looks k).1) (by omega), wrap_in (2 + gtN dg (gL c.looks k).1 + gtN dg (gL c.looks k).2) (by omega)]
    exact dge_loop b0 b1 b4 c dg hc ho Q hq d (k + 1) _ (by omega) (by rw [foldl_takeL _ _ hk, ← he]; rfl)
theorem bDge : Try.f60.body.isSome = true := by kernel_rfl
theorem nDge (c : Cir) : Nat.ble [(.agg [.v (.int .i64 c.fx), .v (.int .i64 c.ad), .v (.int .i64 c.ins), .x 0 [], .x 1 [], .x 2 [], .x 3 [], .x 4 []] : SV)].length Try.f60.ntmps = true := by kernel_rfl
theorem dge_ok (b0 b1 b4 : Bool) (c : Cir) (dg : List Int) (hc : c.ok) (ho : degOk c dg) (Q : SV → List HO → Prop) (hq : Q (.v (.int .i64 (degP c dg))) []) : FnOk Try.prog 60 [.agg [.v (.int .i64 c.fx), .v (.int .i64 c.ad), .v (.int .i64 c.ins), .x 0 [], .x 1 [], .x 2 [], .x 3 [], .x 4 []]] [.ext b0 (.s false 7 c.nodes.length (cN c.nodes)), .ext b1 (.s false 1 c.gates.length (cI c.gates)), .ext false (.s false 2 c.looks.length (cL c.looks)), .ext false (.s false 2 c.eqs.length (cK c.eqs)), .ext b4 (.s false 1 dg.length (cI dg))] Q := by
  refine fn_of_ok Try.func60 bDge ?_ ?_
  · exact nDge c
  have h1 := hc.e.2
  have h2 := hc.l.2
  have h3 := hc.g.2
  have t := gtN_bnd ho.d c.gates
  refine run_sound hm 60 ((dgeS b0 b1 b4 c dg _ _).mpr ⟨?_⟩)
  rw [cond_dec, wrap_in ((c.looks.length : Int) + (c.eqs.length : Int)) (by omega)]
  refine ite_intro (fun h => ?_) (fun h => ?_)
  · refine lH_mk c dg hc ⟨⟨_, rfl, IsC.refl _ _ _, by omega, ho.g, ?_⟩⟩
    rw [wrap_in (gtN dg c.gates + 1) (by omega)]
    exact FOk.loop (c.looks.length + 1) (by kernel_rfl) (dge_loop b0 b1 b4 c dg hc ho Q hq c.looks.length 0 _ (by omega) (by rw [show baseN c = 4 by rw [baseN, if_pos (by omega)]]; rfl))
  · refine lH_mk c dg hc ⟨⟨_, rfl, IsC.refl _ _ _, by omega, ho.g, ?_⟩⟩
    rw [wrap_in (gtN dg c.gates + 1) (by omega)]
    exact FOk.loop (c.looks.length + 1) (by kernel_rfl) (dge_loop b0 b1 b4 c dg hc ho Q hq c.looks.length 0 _ (by omega) (by rw [show baseN c = 3 by rw [baseN, if_neg (by omega)]]; rfl))
noncomputable def gDge : List SV → List HO → Option ((SV → List HO → Prop) → Prop)
  | [.agg [.v (.int .i64 fx), .v (.int .i64 ad), .v (.int .i64 ins), .x 0 [], .x 1 [], .x 2 [], .x 3 [], .x 4 []]], [.ext _ (.s false 7 n0 c0), .ext _ (.s false 1 n1 c1), .ext false (.s false 2 n2 c2), .ext false (.s false 2 n3 c3), .ext _ (.s false 1 n4 c4)] => some fun Q => lH fx ad ins n0 n1 n2 n3 n4 c0 c1 c2 c3 c4 fun c dg => degOk c dg ∧ Q (.v (.int .i64 (degP c dg))) []
  | _, _ => none
theorem gDge_ok (args : List SV) (h : List HO) (tr : (SV → List HO → Prop) → Prop) (Q : SV → List HO → Prop) (hc : gDge args h = some tr) (ht : tr Q) : FnOk Try.prog 60 args h Q := by
  unfold gDge at hc
  split at hc
  · simp only [Option.some.injEq] at hc
    subst hc
    obtain ⟨c, dg, rfl, rfl, rfl, ⟨rfl, e0⟩, ⟨rfl, e1⟩, ⟨rfl, e2⟩, ⟨rfl, e3⟩, ⟨rfl, e4⟩, hk, hq⟩ := ht.h
    exact FnOk.ac (dge_ok _ _ _ c dg hk hq.1 Q hq.2) ⟨⟨rfl, rfl, rfl, rfl, e0⟩, ⟨rfl, rfl, rfl, rfl, e1⟩, ⟨rfl, rfl, rfl, rfl, e2⟩, ⟨rfl, rfl, rfl, rfl, e3⟩, ⟨rfl, rfl, rfl, rfl, e4⟩, trivial⟩
  · cases hc

noncomputable def K51 : Con Try.prog := K50.add 60 gDge gDge_ok
end Go.Proofs.Ytpghmnpbfaichaa
/- circuit.Degree. -/
namespace Go.Pl
open Go.Sx
/-- Is a circuit right, whose nodes are right? -/
def goodB (c : Cir) : Bool := cntB c && !c.gates.any (fun n => !placeB c n) && !c.looks.any (fun x => !lookB c x) && eqF c [] c.eqs && decide (degP c (degrees c.nodes) ≤ 8)
def chkC (c : Cir) : Int := if chkN c.nodes c.fx c.ad c.ins = 0 then (if goodB c then 0 else 120) else chkN c.nodes c.fx c.ad c.ins
def degV (c : Cir) : Int := if chkC c = 0 then degP c (degrees c.nodes) else 0
theorem degsN_bnd : ∀ (l : List Nd) (out : List Int), (∀ z ∈ out, 0 ≤ z ∧ z ≤ 1000) → ∀ z ∈ degsN out l, 0 ≤ z ∧ z ≤ 1000
  | [], out, h => h
  | x :: r, out, h => by
    rw [degsN]
    refine degsN_bnd r _ fun z hz => ?_
    rcases List.mem_append.1 hz with hz | hz
    · exact h z hz
    · rw [List.mem_singleton] at hz
      rw [hz]
      exact degN_bound h x
theorem degrees_bnd (l : List Nd) : ∀ z ∈ degrees l, 0 ≤ z ∧ z ≤ 1000 := by
  rw [degrees]
  split
  · exact degsN_bnd l [] (fun z hz => by cases hz)
  · intro z hz; cases hz
theorem chkN_ord {l : List Nd} {f a i : Int} (h : chkN l f a i = 0) : l.length ≤ 64 ∧ ordN 0 l = true := by
  rw [chkN] at h
  split at h
  · cases h
  · rename_i hh
    refine ⟨by omega, ?_⟩
    cases ho : ordN 0 l with
    | true => rfl
    | false => exact absurd (.inr (.inl ho)) hh
theorem degrees_full {l : List Nd} (h : ordN 0 l = true) : (degrees l).length = l.length := by
  rw [degrees, if_pos h, degsN_length]; simp
theorem any_not {α : Type} {p : α → Bool} {l : List α} (h : l.any (fun n => !p n) = false) : ∀ x ∈ l, p x = true := by
  intro x hx
  have := List.any_eq_false.1 h x hx
  simpa using this
theorem flat_place {c : Cir} {x : Int} (h : flatB c x = true) : 0 ≤ x ∧ x < (c.nodes.length : Int) := by
  rw [flatB, Bool.and_eq_true, decide_eq_true_eq] at h
  exact h.1
theorem look_places {c : Cir} {x : List Int × List Int} (h : lookB c x = true) : (∀ g ∈ x.1, flatB c g = true) ∧ (∀ g ∈ x.2, flatB c g = true) ∧ 1 ≤ x.1.length ∧ x.1.length ≤ 4 ∧ x.2.length = x.1.length := by
  simp only [lookB, Bool.and_eq_true, Bool.not_eq_true', decide_eq_true_eq] at h
  obtain ⟨⟨h1, h2⟩, h3⟩ := h
  exact ⟨any_not h2, any_not h3, h1⟩
theorem degOk_of {c : Cir} (h0 : chkN c.nodes c.fx c.ad c.ins = 0) (h1 : c.gates.any (fun n => !placeB c n) = false) (h2 : c.looks.any (fun x => !lookB c x) = false) : degOk c (degrees c.nodes) where
  g := by
    intro g hg
    have := any_not h1 g hg
    rw [placeB, decide_eq_true_eq] at this
    rw [degrees_full (chkN_ord h0).2]
    exact this
  l := by
    intro x hx
    obtain ⟨p1, p2, _⟩ := look_places (any_not h2 x hx)
    rw [degrees_full (chkN_ord h0).2]
    exact ⟨fun g hg => flat_place (p1 g hg), fun g hg => flat_place (p2 g hg)⟩
  d := degrees_bnd c.nodes
theorem chkC_bad {c : Cir} (h0 : chkN c.nodes c.fx c.ad c.ins = 0) (h : goodB c = false) : chkC c = 120 ∧ degV c = 0 := by
  have : chkC c = 120 := by rw [chkC, if_pos h0, h]; rfl
  exact ⟨this, by rw [degV, this]; rfl⟩
theorem chkC_good {c : Cir} (h0 : chkN c.nodes c.fx c.ad c.ins = 0) (h : goodB c = true) : chkC c = 0 ∧ degV c = degP c (degrees c.nodes) := by
  have : chkC c = 0 := by rw [chkC, if_pos h0, h]; rfl
  exact ⟨this, by rw [degV, this]; rfl⟩
end Go.Pl
namespace Go.Proofs.Ytpghmnpbfaichaa
open Go.Sx Go.Pl
set_option linter.unusedVariables false
set_option maxRecDepth 100000
theorem pdS (b0 b1 : Bool) (c : Cir) (K : List It → St → Prop) (R : SV → List HO → Prop) : W (xwp Try.prog X K51 [(53, []), (56, [])] 60 (fxOf Try.f23 [] []) [] [.at []] ⟨argsS 0 [.agg [.v (.int .i64 c.fx), .v (.int .i64 c.ad), .v (.int .i64 c.ins), .x 0 [], .x 1 [], .x 2 [], .x 3 []]], [.ext b0 (.s false 7 c.nodes.length (cN c.nodes)), .ext b1 (.s false 1 c.gates.length (cI c.gates)), .ext false (.s false 2 c.looks.length (cL c.looks)), .ext false (.s false 2 c.eqs.length (cK c.eqs))]⟩ K R) = W (∃ (l : List Nd), List.length c.4 = List.length l ∧ IsC (List.length c.4) 7 (cN c.4) (cN l) ∧ List.length l ≤ 4398046511104 ∧ bif !chkN l c.1 c.2 c.3 == (0 : Int) then R (SV.tup [SV.v (vi64 (0 : Int)), SV.v (vi64 (chkN l c.1 c.2 c.3))]) [] else (∃ (l : List Nd), List.length c.4 = List.length l ∧ IsC (List.length c.4) 7 (cN c.4) (cN l) ∧ List.length l ≤ 4398046511104 ∧ (∀ (M : Mem), 0 + 8 ≤ 8) ∧ lH c.1 c.2 c.3 (List.length c.4) (List.length c.5) (List.length c.6) (List.length c.7) (List.length (degrees l)) (cN c.4) (cI c.5) (cL c.6) (cK c.7) (cI (degrees l)) fun (c_1 : Cir) (dg : List Int) => bif !cntB c_1 then R (SV.tup [SV.v (vi64 (0 : Int)), SV.v (vi64 (120 : Int))]) [] else lI (List.length c.5) (cI c.5) fun (l_1 : List Int) => lKc (lc 8 [Cell.v (vi64 c.1), Cell.v (vi64 c.2), Cell.v (vi64 c.3), Cell.s false 7 (List.length c.4) (cN c.4), Cell.s false 1 (List.length c.5) (cI c.5), Cell.s false 2 (List.length c.6) (cL c.6), Cell.s false 2 (List.length c.7) (cK c.7), Cell.s false 1 (List.length (degrees l)) (cI (degrees l))]) fun (c_2 : Cir) (dg : List Int) => bif decide ((0 : Int) ≤ idxF (fun (n : Int) => !placeB c_2 n) 0 l_1) then R (SV.tup [SV.v (vi64 (0 : Int)), SV.v (vi64 (120 : Int))]) [] else lLk (List.length c.6) (cL c.6) fun (l_2 : List (List Int × List Int)) => lKc (lc 8 [Cell.v (vi64 c.1), Cell.v (vi64 c.2), Cell.v (vi64 c.3), Cell.s false 7 (List.length c.4) (cN c.4), Cell.s false 1 (List.length c.5) (cI c.5), Cell.s false 2 (List.length c.6) (cL c.6), Cell.s false 2 (List.length c.7) (cK c.7), Cell.s false 1 (List.length (degrees l)) (cI (degrees l))]) fun (c_3 : Cir) (dg : List Int) => bif decide ((0 : Int) ≤ idxF (fun (x : List Int × List Int) => !lookB c_3 x) 0 l_2) then R (SV.tup [SV.v (vi64 (0 : Int)), SV.v (vi64 (120 : Int))]) [] else lH c.1 c.2 c.3 (List.length c.4) (List.length c.5) (List.length c.6) (List.length c.7) (List.length (degrees l)) (cN c.4) (cI c.5) (cL c.6) (cK c.7) (cI (degrees l)) fun (c_4 : Cir) (dg : List Int) => bif !eqF c_4 [] c_4.7 then R (SV.tup [SV.v (vi64 (0 : Int)), SV.v (vi64 (120 : Int))]) [] else lH c.1 c.2 c.3 (List.length c.4) (List.length c.5) (List.length c.6) (List.length c.7) (List.length (degrees l)) (cN c.4) (cI c.5) (cL c.6) (cK c.7) (cI (degrees l)) fun (c_5 : Cir) (dg : List Int) => degOk c_5 dg ∧ bif decide ((8 : Int) < degP c_5 dg) then R (SV.tup [SV.v (vi64 (0 : Int)), SV.v (vi64 (120 : Int))]) [] else lH c.1 c.2 c.3 (List.length c.4) (List.length c.5) (List.length c.6) (List.length c.7) (List.length (degrees l)) (cN c.4) (cI c.5) (cL c.6) (cK c.7) (cI (degrees l)) fun (c : Cir) (dg : List Int) => degOk c dg ∧ R (SV.tup [SV.v (vi64 (degP c dg)), SV.v (vi64 (0 : Int))]) []) ∧ ∃ (l : List Nd), List.length c.4 = List.length l ∧ IsC (List.length c.4) 7 (cN c.4) (cN l) ∧ List.length l ≤ 4398046511104 ∧ (∀ (M : Mem), 0 + 8 ≤ 8) ∧ lH c.1 c.2 c.3 (List.length c.4) (List.length c.5) (List.length c.6) (List.length c.7) (List.length (degrees l)) (cN c.4) (cI c.5) (cL c.6) (cK c.7) (cI (degrees l)) fun (c_1 : Cir) (dg : List Int) => bif !cntB c_1 then R (SV.tup [SV.v (vi64 (0 : Int)), SV.v (vi64 (120 : Int))]) [] else lI (List.length c.5) (cI c.5) fun (l_1 : List Int) => lKc (lc 8 [Cell.v (vi64 c.1), Cell.v (vi64 c.2), Cell.v (vi64 c.3), Cell.s false 7 (List.length c.4) (cN c.4), Cell.s false 1 (List.length c.5) (cI c.5), Cell.s false 2 (List.length c.6) (cL c.6), Cell.s false 2 (List.length c.7) (cK c.7), Cell.s false 1 (List.length (degrees l)) (cI (degrees l))]) fun (c_2 : Cir) (dg : List Int) => bif decide ((0 : Int) ≤ idxF (fun (n : Int) => !placeB c_2 n) 0 l_1) then R (SV.tup [SV.v (vi64 (0 : Int)), SV.v (vi64 (120 : Int))]) [] else lLk (List.length c.6) (cL c.6) fun (l_2 : List (List Int × List Int)) => lKc (lc 8 [Cell.v (vi64 c.1), Cell.v (vi64 c.2), Cell.v (vi64 c.3), Cell.s false 7 (List.length c.4) (cN c.4), Cell.s false 1 (List.length c.5) (cI c.5), Cell.s false 2 (List.length c.6) (cL c.6), Cell.s false 2 (List.length c.7) (cK c.7), Cell.s false 1 (List.length (degrees l)) (cI (degrees l))]) fun (c_3 : Cir) (dg : List Int) => bif decide ((0 : Int) ≤ idxF (fun (x : List Int × List Int) => !lookB c_3 x) 0 l_2) then R (SV.tup [SV.v (vi64 (0 : Int)), SV.v (vi64 (120 : Int))]) [] else lH c.1 c.2 c.3 (List.length c.4) (List.length c.5) (List.length c.6) (List.length c.7) (List.length (degrees l)) (cN c.4) (cI c.5) (cL c.6) (cK c.7) (cI (degrees l)) fun (c_4 : Cir) (dg : List Int) => bif !eqF c_4 [] c_4.7 then R (SV.tup [SV.v (vi64 (0 : Int)), SV.v (vi64 (120 : Int))]) [] else lH c.1 c.2 c.3 (List.length c.4) (List.length c.5) (List.length c.6) (List.length c.7) (List.length (degrees l)) (cN c.4) (cI c.5) (cL c.6) (cK c.7) (cI (degrees l)) fun (c_5 : Cir) (dg : List Int) => degOk c_5 dg ∧ bif decide ((8 : Int) < degP c_5 dg) then R (SV.tup [SV.v (vi64 (0 : Int)), SV.v (vi64 (120 : Int))]) [] else lH c.1 c.2 c.3 (List.length c.4) (List.length c.5) (List.length c.6) (List.length c.7) (List.length (degrees l)) (cN c.4) (cI c.5) (cL c.6) (cK c.7) (cI (degrees l)) fun (c : Cir) (dg : List Int) => degOk c dg ∧ R (SV.tup [SV.v (vi64 (degP c dg)), SV.v (vi64 (0 : Int))]) []) := by kernel_rfl
theorem bPd : Try.f23.body.isSome = true := by kernel_rfl
theorem nPd (c : Cir) : Nat.ble [(.agg [.v (.int .i64 c.fx), .v (.int .i64 c.ad), .v (.int .i64 c.ins), .x 0 [], .x 1 [], .x 2 [], .x 3 []] : SV)].length Try.f23.ntmps = true := by kernel_rfl
theorem pd_ok (b0 b1 : Bool) (c : Cir) (hc : c.ok) (Q : SV → List HO → Prop) (hq : Q (.tup [.v (.int .i64 (degV c)), .v (.int .i64 (chkC c))]) []) : FnOk Try.prog 23 [.agg [.v (.int .i64 c.fx), .v (.int .i64 c.ad), .v (.int .i64 c.ins), .x 0 [], .x 1 [], .x 2 [], .x 3 []]] [.ext b0 (.s false 7 c.nodes.length (cN c.nodes)), .ext b1 (.s false 1 c.gates.length (cI c.gates)), .ext false (.s false 2 c.looks.length (cL c.looks)), .ext false (.s false 2 c.eqs.length (cK c.eqs))] Q := by
  refine fn_of_ok Try.func23 bPd ?_ ?_
  · exact nPd c
  have h1 := hc.n.2
  have h2 := hc.g.2
  have h3 := hc.l.2
  refine run_sound hm 60 ((pdS b0 b1 c _ _).mpr ⟨?_⟩)
  refine ⟨c.nodes, rfl, IsC.refl _ _ _, by omega, ?_⟩
  simp only [cond_dec, cond_not, cond_beq]
  refine ite_intro (fun h0 => ?_) (fun h0 => ?_)
  · have no : goodB c = false → Q (.tup [.v (.int .i64 0), .v (.int .i64 120)]) [] := fun h => by
      obtain ⟨e1, e2⟩ := chkC_bad h0 h
      rw [e1, e2] at hq
      exact hq
    have yes : goodB c = true → Q (.tup [.v (.int .i64 (degP c (degrees c.nodes))), .v (.int .i64 0)]) [] := fun h => by
      obtain ⟨e1, e2⟩ := chkC_good h0 h
      rw [e1, e2] at hq
      exact hq
    have lk : ∀ x ∈ c.looks, x.1.length * 8 ≤ 140737488351232 ∧ x.2.length * 8 ≤ 140737488351232 := fun x hx => ⟨(hc.l.1 x hx).1.2, (hc.l.1 x hx).2.2⟩
    refine And.intro ?_ ?_
    all_goals
      refine ⟨c.nodes, rfl, IsC.refl _ _ _, by omega, And.intro (fun _ => by omega) (lH_mk c _ hc (cond_intro (fun a1 => ?_) (fun a1 => no ?_)))⟩
      · refine ⟨⟨c.gates, rfl, IsC.refl _ _ _, by omega, lKc_lc c _ hc (ite_intro (fun a2 => no ?_) (fun a2 => ?_))⟩⟩
        · rw [goodB, ← idxF_any (fun n => !placeB c n) c.gates 0, decide_eq_true a2]; simp
        · have a2' : c.gates.any (fun n => !placeB c n) = false := by rw [← idxF_any _ c.gates 0, decide_eq_false a2]
          refine ⟨⟨c.looks, rfl, IsC.refl _ _ _, h3, lk, lKc_lc c _ hc (ite_intro (fun a3 => no ?_) (fun a3 => ?_))⟩⟩
          · rw [goodB, ← idxF_any (fun x => !lookB c x) c.looks 0, decide_eq_true a3]; simp
          · have a3' : c.looks.any (fun x => !lookB c x) = false := by rw [← idxF_any _ c.looks 0, decide_eq_false a3]
            have ho := degOk_of h0 a2' a3'
            refine lH_mk c _ hc (cond_intro (fun a4 => ?_) (fun a4 => no ?_))
            · refine lH_mk c _ hc ⟨ho, ite_intro (fun a5 => no ?_) (fun a5 => lH_mk c _ hc ⟨ho, yes ?_⟩)⟩
              · rw [goodB, decide_eq_false (by omega)]; simp
              · rw [goodB, a1, a2', a3', a4, decide_eq_true (by omega)]; rfl
            · rw [goodB, a4]; simp
      · rw [goodB, a1]; rfl
  · have e1 : chkC c = chkN c.nodes c.fx c.ad c.ins := by rw [chkC, if_neg h0]
    rw [degV, e1, if_neg h0] at hq
    exact hq
noncomputable def gPd : List SV → List HO → Option ((SV → List HO → Prop) → Prop)
  | [.agg [.v (.int .i64 fx), .v (.int .i64 ad), .v (.int .i64 ins), .x 0 [], .x 1 [], .x 2 [], .x 3 []]], [.ext _ (.s false 7 n0 c0), .ext _ (.s false 1 n1 c1), .ext false (.s false 2 n2 c2), .ext false (.s false 2 n3 c3)] =>
    some fun Q => lC fx ad ins n0 n1 n2 n3 c0 c1 c2 c3 fun c => Q (.tup [.v (.int .i64 (degV c)), .v (.int .i64 (chkC c))]) []
  | _, _ => none
theorem gPd_ok (args : List SV) (h : List HO) (tr : (SV → List HO → Prop) → Prop) (Q : SV → List HO → Prop) (hc : gPd args h = some tr) (ht : tr Q) : FnOk Try.prog 23 args h Q := by
  unfold gPd at hc
  split at hc
  · simp only [Option.some.injEq] at hc
    subst hc
    obtain ⟨c, rfl, rfl, rfl, ⟨rfl, e0⟩, ⟨rfl, e1⟩, ⟨rfl, e2⟩, ⟨rfl, e3⟩, hk, hq⟩ := ht.h
    exact FnOk.ac (pd_ok _ _ c hk Q hq) ⟨⟨rfl, rfl, rfl, rfl, e0⟩, ⟨rfl, rfl, rfl, rfl, e1⟩, ⟨rfl, rfl, rfl, rfl, e2⟩, ⟨rfl, rfl, rfl, rfl, e3⟩, trivial⟩
  · cases hc
noncomputable def K52 : Con Try.prog := K51.add 23 gPd gPd_ok
end Go.Proofs.Ytpghmnpbfaichaa
/- Usable rows. -/
namespace Go.Pl
open Go.Sx
def usN (k : Int) : Int := if k < 2 then 0 else if 30 < k then 0 else 2 ^ k.toNat - 4
theorem pow_bnd {k : Int} (h1 : 2 ≤ k) (h2 : k ≤ 30) : (4 : Int) ≤ 2 ^ k.toNat ∧ (2 : Int) ^ k.toNat ≤ 1073741824 := by
  have e1 : (2 : Nat) ^ 2 ≤ 2 ^ k.toNat := Nat.pow_le_pow_right (by omega) (by omega)
  have e2 : (2 : Nat) ^ k.toNat ≤ 2 ^ 30 := Nat.pow_le_pow_right (by omega) (by omega)
  have e3 : ((2 ^ k.toNat : Nat) : Int) = (2 : Int) ^ k.toNat := by push_cast; rfl
  omega
theorem us_eq {k : Int} (h1 : 2 ≤ k) (h2 : k ≤ 30) : IntKind.wrap IntKind.i64 (IntKind.wrap IntKind.i64 ((1 : Int) * (2 : Int) ^ (if Int.toNat k ≤ 64 then Int.toNat k else 64)) - (4 : Int)) = usN k := by
  obtain ⟨p1, p2⟩ := pow_bnd h1 h2
  rw [if_pos (by omega), Int.one_mul, wrap_in (2 ^ k.toNat) (by omega), wrap_in (2 ^ k.toNat - 4) (by omega), usN, if_neg (by omega), if_neg (by omega)]
end Go.Pl
namespace Go.Proofs.Ytpghmnpbfaichaa
open Go.Sx Go.Pl
set_option linter.unusedVariables false
set_option maxRecDepth 100000
theorem usS (k : Int) (K : List It → St → Prop) (R : SV → List HO → Prop) : W (xwp Try.prog X K52 [] 60 (fxOf Try.f18 [] []) [] [.at []] ⟨argsS 0 [.v (.int .i64 k)], []⟩ K R) = W (bif decide (k < (2 : Int)) then R (SV.v (vi64 (0 : Int))) [] else bif decide ((30 : Int) < k) then R (SV.v (vi64 (0 : Int))) [] else (∀ (M : Mem), ¬k < (0 : Int)) ∧ R (SV.v (vi64 (IntKind.wrap IntKind.i64 (IntKind.wrap IntKind.i64 ((1 : Int) * (2 : Int) ^ if Int.toNat k ≤ 64 then Int.toNat k else 64) - (4 : Int))))) []) := by kernel_rfl
theorem urS (k : Int) (K : List It → St → Prop) (R : SV → List HO → Prop) : W (xwp Try.prog X K52 [] 60 (fxOf Try.f19 [] []) [] [.at []] ⟨argsS 0 [.v (.int .i64 k)], []⟩ K R) = W (bif decide (k < (2 : Int)) then R (SV.v (vi64 (0 : Int))) [] else bif decide ((30 : Int) < k) then R (SV.v (vi64 (0 : Int))) [] else (∀ (M : Mem), ¬IntKind.wrap IntKind.u64 k < (0 : Int)) ∧ R (SV.v (vi64 (IntKind.wrap IntKind.i64 (IntKind.wrap IntKind.i64 ((1 : Int) * (2 : Int) ^ if Int.toNat (IntKind.wrap IntKind.u64 k) ≤ 64 then Int.toNat (IntKind.wrap IntKind.u64 k) else 64) - (4 : Int))))) []) := by kernel_rfl
theorem bus : Try.f18.body.isSome = true := by kernel_rfl
theorem nus (k : Int) : Nat.ble [SV.v (.int .i64 k)].length Try.f18.ntmps = true := by kernel_rfl
theorem us_ok (k : Int) (Q : SV → List HO → Prop) (hq : Q (.v (.int .i64 (usN k))) []) : FnOk Try.prog 18 [.v (.int .i64 k)] [] Q := by
  refine fn_of_ok Try.func18 bus ?_ ?_
  · exact nus k
  refine run_sound hm 60 ((usS k _ _).mpr ⟨?_⟩)
  simp only [cond_dec]
  refine ite_intro (fun h => ?_) (fun h => ite_intro (fun h2 => ?_) (fun h2 => ?_))
  · rw [usN, if_pos h] at hq
    exact hq
  · rw [usN, if_neg h, if_pos h2] at hq
    exact hq
  · refine And.intro (fun _ => by omega) ?_
    rw [us_eq (by omega) (by omega)]
    exact hq
noncomputable def g_us : List SV → List HO → Option ((SV → List HO → Prop) → Prop)
  | [.v (.int .i64 k)], [] => some fun Q => Q (.v (.int .i64 (usN k))) []
  | _, _ => none
theorem g_us_ok (args : List SV) (h : List HO) (tr : (SV → List HO → Prop) → Prop) (Q : SV → List HO → Prop) (hc : g_us args h = some tr) (ht : tr Q) : FnOk Try.prog 18 args h Q := by
  unfold g_us at hc
  split at hc
  · simp only [Option.some.injEq] at hc
    subst hc
    exact us_ok _ Q ht
  · cases hc
theorem bur : Try.f19.body.isSome = true := by kernel_rfl
theorem nur (k : Int) : Nat.ble [SV.v (.int .i64 k)].length Try.f19.ntmps = true := by kernel_rfl
theorem ur_ok (k : Int) (Q : SV → List HO → Prop) (hq : Q (.v (.int .i64 (usN k))) []) : FnOk Try.prog 19 [.v (.int .i64 k)] [] Q := by
  refine fn_of_ok Try.func19 bur ?_ ?_
  · exact nur k
  refine run_sound hm 60 ((urS k _ _).mpr ⟨?_⟩)
  simp only [cond_dec]
  refine ite_intro (fun h => ?_) (fun h => ite_intro (fun h2 => ?_) (fun h2 => ?_))
  · rw [usN, if_pos h] at hq
    exact hq
  · rw [usN, if_neg h, if_pos h2] at hq
    exact hq
  · have e : IntKind.wrap .u64 k = k := by rw [wrap_u64]; omega
    rw [e]
    refine And.intro (fun _ => by omega) ?_
    rw [us_eq (by omega) (by omega)]
    exact hq
noncomputable def g_ur : List SV → List HO → Option ((SV → List HO → Prop) → Prop)
  | [.v (.int .i64 k)], [] => some fun Q => Q (.v (.int .i64 (usN k))) []
  | _, _ => none
theorem g_ur_ok (args : List SV) (h : List HO) (tr : (SV → List HO → Prop) → Prop) (Q : SV → List HO → Prop) (hc : g_ur args h = some tr) (ht : tr Q) : FnOk Try.prog 19 args h Q := by
  unfold g_ur at hc
  split at hc
  · simp only [Option.some.injEq] at hc
    subst hc
    exact ur_ok _ Q ht
  · cases hc
noncomputable def K53 : Con Try.prog := (K52.add 18 g_us g_us_ok).add 19 g_ur g_ur_ok
end Go.Proofs.Ytpghmnpbfaichaa
/- circuit.Rows. -/
namespace Go.Pl
open Go.Sx
def frQ (f : Int) (q : Int × Int × Int) : Int := if f < IntKind.wrap .i64 (0 - q.2.2) then IntKind.wrap .i64 (0 - q.2.2) else f
def toQ (kk t : Int) (q : Int × Int × Int) : Int := if IntKind.wrap .i64 (usN kk - q.2.2) < t then IntKind.wrap .i64 (usN kk - q.2.2) else t
def rowsQ (l : List (Int × Int × Int)) (k : Int) : Int × Int := if l.foldl (toQ k) (usN k) ≤ l.foldl frQ 0 then (0, 0) else (l.foldl frQ 0, l.foldl (toQ k) (usN k))
/-- At which rows a node fits. -/
def rowsV (c : Cir) (k x : Int) : Int × Int := if chkC c = 0 ∧ 0 ≤ x ∧ x < (c.nodes.length : Int) then rowsQ (coneQ c x) k else (0, 0)
theorem foldl_takeQ {α : Type} (f : α → Int × Int × Int → α) (a : α) {l : List (Int × Int × Int)} {k : Nat} (h : k < l.length) : (l.take (k + 1)).foldl f a = f ((l.take k).foldl f a) (gQ l k) := by
  rw [List.take_add_one, List.getElem?_eq_getElem h, List.foldl_append, gQ, List.getD_eq_getElem?_getD, List.getElem?_eq_getElem h]; rfl
end Go.Pl
namespace Go.Proofs.Ytpghmnpbfaichaa
open Go.Sx Go.Pl
set_option linter.unusedVariables false
set_option maxRecDepth 100000
theorem prS (b0 b1 : Bool) (c : Cir) (k x : Int) (K : List It → St → Prop) (R : SV → List HO → Prop) : W (xwp Try.prog X K53 [(20, [])] 60 (fxOf Try.f15 [] [⟨[0,1,0,1,1,1], [32,31,30,9,8,1], []⟩]) [] [.at []] ⟨argsS 0 [.agg [.v (.int .i64 c.fx), .v (.int .i64 c.ad), .v (.int .i64 c.ins), .x 0 [], .x 1 [], .x 2 [], .x 3 []], .v (.int .i64 k), .v (.int .i64 x)], [.ext b0 (.s false 7 c.nodes.length (cN c.nodes)), .ext b1 (.s false 1 c.gates.length (cI c.gates)), .ext false (.s false 2 c.looks.length (cL c.looks)), .ext false (.s false 2 c.eqs.length (cK c.eqs))]⟩ K R) = W (lC c.1 c.2 c.3 (List.length c.4) (List.length c.5) (List.length c.6) (List.length c.7) (cN c.4) (cI c.5) (cL c.6) (cK c.7) fun (c_1 : Cir) => bif !chkC c_1 == (0 : Int) then R (SV.tup [SV.v (vi64 (0 : Int)), SV.v (vi64 (0 : Int))]) [] else bif decide (x < (0 : Int)) then R (SV.tup [SV.v (vi64 (0 : Int)), SV.v (vi64 (0 : Int))]) [] else bif decide ((↑(List.length c.4) : Int) ≤ x) then R (SV.tup [SV.v (vi64 (0 : Int)), SV.v (vi64 (0 : Int))]) [] else lC c.1 c.2 c.3 (List.length c.4) (List.length c.5) (List.length c.6) (List.length c.7) (cN c.4) (cI c.5) (cL c.6) (cK c.7) fun (c : Cir) => K [It.at [0, 1, 0, 1, 1, 1], It.blk 0, It.at [1, 1, 1, 1]] (St.mk [(32, SV.v (vi64 (0 : Int))), (31, SV.v (vi64 (↑(List.length (coneQ c x)) : Int))), (30, SV.o 0), (9, SV.v (vi64 (usN k))), (8, SV.v (vi64 (0 : Int))), (1, SV.v (vi64 k))] [HO.rowc 63 3 (List.length (coneQ c x)) (Ct.fn (cQ (coneQ c x)))])) := by kernel_rfl
theorem prR (l : List (Int × Int × Int)) (f t kk : Int) (k M : Nat) (K : List It → St → Prop) (R : SV → List HO → Prop) : W (xwp Try.prog X K53 [] 60 (fxOf Try.f15 [] [⟨[0,1,0,1,1,1], [32,31,30,9,8,1], []⟩]) [] (.at [0,0,1,0,1,1,1] :: .rnd [0,0,1,0,1,1,1] M :: [.blk 0, .at [1,1,1,1]]) ⟨[(32, .v (.int .i64 (k : Int))), (31, .v (.int .i64 (l.length : Int))), (30, .o 0), (9, .v (.int .i64 t)), (8, .v (.int .i64 f)), (1, .v (.int .i64 kk))], [.rowc 63 3 l.length (.fn (cQ l))]⟩ K R) = W (bif decide ((↑k : Int) < (↑(List.length l) : Int)) then (∀ (M : Mem), (0 : Int) ≤ (↑k : Int) ∧ (↑k : Int) < (↑(List.length l) : Int)) ∧ (∀ (M : Mem), k < List.length l) ∧ (∀ (M : Mem), 0 + 3 ≤ 3) ∧ K [It.rnd [0, 0, 1, 0, 1, 1, 1] M, It.blk 0, It.at [1, 1, 1, 1]] (St.mk [(32, SV.v (vi64 (IntKind.wrap IntKind.i64 ((↑k : Int) + (1 : Int))))), (31, SV.v (vi64 (↑(List.length l) : Int))), (30, SV.o 0), (9, SV.v (vi64 (if IntKind.wrap IntKind.i64 (usN kk - (gQ l k).2.2) < t then IntKind.wrap IntKind.i64 (usN kk - (gQ l k).2.2) else t))), (8, SV.v (vi64 (if f < IntKind.wrap IntKind.i64 ((0 : Int) - (gQ l k).2.2) then IntKind.wrap IntKind.i64 ((0 : Int) - (gQ l k).2.2) else f))), (1, SV.v (vi64 kk))] [HO.rowc 63 3 (List.length l) (Ct.fn (cQ l))]) else bif decide (t ≤ f) then R (SV.tup [SV.v (vi64 (0 : Int)), SV.v (vi64 (0 : Int))]) [] else R (SV.tup [SV.v (vi64 f), SV.v (vi64 t)]) []) := by kernel_rfl
theorem pr_loop (l : List (Int × Int × Int)) (hl : l.length ≤ 4398046511104) (kk : Int) (Q : SV → List HO → Prop) (hq : Q (.tup [.v (.int .i64 (rowsQ l kk).1), .v (.int .i64 (rowsQ l kk).2)]) []) : ∀ (d k : Nat) (f t : Int), k + d = l.length → f = (l.take k).foldl frQ 0 → t = (l.take k).foldl (toQ kk) (usN kk) →
    FOk Try.prog Try.f15 Q (.rnd [0,0,1,0,1,1,1] (d + 1) :: [.blk 0, .at [1,1,1,1]]) ⟨[(32, .v (.int .i64 (k : Int))), (31, .v (.int .i64 (l.length : Int))), (30, .o 0), (9, .v (.int .i64 t)), (8, .v (.int .i64 f)), (1, .v (.int .i64 kk))], [.rowc 63 3 l.length (.fn (cQ l))]⟩
  | 0, k, f, t, hd, hf, ht => by
    refine FOk.rnd (run_sound hm 60 ((prR l f t kk k 0 _ _).mpr ⟨?_⟩))
    rw [cond_dec, if_neg (by omega), cond_dec]
    rw [show k = l.length by omega, List.take_length] at hf ht
    rw [hf, ht]
    rw [rowsQ] at hq
    refine ite_intro (fun h => ?_) (fun h => ?_)
    · rw [if_pos h] at hq; exact hq
    · rw [if_neg h] at hq; exact hq
  | d + 1, k, f, t, hd, hf, ht => by
    have hk : k < l.length := by omega
    refine FOk.rnd (run_sound hm 60 ((prR l f t kk k (d + 1) _ _).mpr ⟨?_⟩))
    rw [cond_dec, if_pos (by omega), wrap_inc _ (by omega)]
    refine And.intro (fun _ => by omega) (And.intro (fun _ => by omega) (And.intro (fun _ => by omega) ?_))
    exact pr_loop l hl kk Q hq d (k + 1) _ _ (by omega) (by rw [foldl_takeQ _ _ hk, ← hf]; rfl) (by rw [foldl_takeQ _ _ hk, ← ht]; rfl)
theorem bPr : Try.f15.body.isSome = true := by kernel_rfl
theorem nPr (c : Cir) (k x : Int) : Nat.ble [(.agg [.v (.int .i64 c.fx), .v (.int .i64 c.ad), .v (.int .i64 c.ins), .x 0 [], .x 1 [], .x 2 [], .x 3 []] : SV), .v (.int .i64 k), .v (.int .i64 x)].length Try.f15.ntmps = true := by kernel_rfl
theorem pr_ok (b0 b1 : Bool) (c : Cir) (hc : c.ok) (k x : Int) (Q : SV → List HO → Prop) (hq : Q (.tup [.v (.int .i64 (rowsV c k x).1), .v (.int .i64 (rowsV c k x).2)]) []) : FnOk Try.prog 15 [.agg [.v (.int .i64 c.fx), .v (.int .i64 c.ad), .v (.int .i64 c.ins), .x 0 [], .x 1 [], .x 2 [], .x 3 []], .v (.int .i64 k), .v (.int .i64 x)] [.ext b0 (.s false 7 c.nodes.length (cN c.nodes)), .ext b1 (.s false 1 c.gates.length (cI c.gates)), .ext false (.s false 2 c.looks.length (cL c.looks)), .ext false (.s false 2 c.eqs.length (cK c.eqs))] Q := by
  refine fn_of_ok Try.func15 bPr ?_ ?_
  · exact nPr c k x
  have h1 := hc.n.2
  have h2 := coneQ_len c x
  refine run_sound hm 60 ((prS b0 b1 c k x _ _).mpr ⟨?_⟩)
  have no : ¬ (chkC c = 0 ∧ 0 ≤ x ∧ x < (c.nodes.length : Int)) → Q (.tup [.v (.int .i64 0), .v (.int .i64 0)]) [] := fun h => by
    rw [rowsV, if_neg h] at hq
    exact hq
  simp only [cond_dec, cond_not, cond_beq]
  refine lC_mk c hc (ite_intro (fun a1 => ite_intro (fun a2 => no (by omega)) (fun a2 => ite_intro (fun a3 => no (by omega)) (fun a3 => lC_mk c hc ?_))) (fun a1 => no (fun h => a1 h.1)))
  rw [rowsV, if_pos (by omega)] at hq
  exact FOk.loop ((coneQ c x).length + 1) (by kernel_rfl) (pr_loop (coneQ c x) (by omega) k Q hq (coneQ c x).length 0 _ _ (by omega) rfl rfl)
noncomputable def gPr : List SV → List HO → Option ((SV → List HO → Prop) → Prop)
  | [.agg [.v (.int .i64 fx), .v (.int .i64 ad), .v (.int .i64 ins), .x 0 [], .x 1 [], .x 2 [], .x 3 []], .v (.int .i64 k), .v (.int .i64 x)], [.ext _ (.s false 7 n0 c0), .ext _ (.s false 1 n1 c1), .ext false (.s false 2 n2 c2), .ext false (.s false 2 n3 c3)] =>
    some fun Q => lC fx ad ins n0 n1 n2 n3 c0 c1 c2 c3 fun c => Q (.tup [.v (.int .i64 (rowsV c k x).1), .v (.int .i64 (rowsV c k x).2)]) []
  | _, _ => none
theorem gPr_ok (args : List SV) (h : List HO) (tr : (SV → List HO → Prop) → Prop) (Q : SV → List HO → Prop) (hc : gPr args h = some tr) (ht : tr Q) : FnOk Try.prog 15 args h Q := by
  unfold gPr at hc
  split at hc
  · simp only [Option.some.injEq] at hc
    subst hc
    obtain ⟨c, rfl, rfl, rfl, ⟨rfl, e0⟩, ⟨rfl, e1⟩, ⟨rfl, e2⟩, ⟨rfl, e3⟩, hk, hq⟩ := ht.h
    exact FnOk.ac (pr_ok _ _ c hk _ _ Q hq) ⟨⟨rfl, rfl, rfl, rfl, e0⟩, ⟨rfl, rfl, rfl, rfl, e1⟩, ⟨rfl, rfl, rfl, rfl, e2⟩, ⟨rfl, rfl, rfl, rfl, e3⟩, trivial⟩
  · cases hc
noncomputable def K54 : Con Try.prog := K53.add 15 gPr gPr_ok
end Go.Proofs.Ytpghmnpbfaichaa
/- The degree, by the document. -/
namespace Go.Pl
open Go.Sx
theorem gtN_take {dg l : List Int} {k : Nat} {a : Int} (h : k < l.length) (ha : a = gtN dg (l.take k)) (hp : a < gI dg (gI l k).toNat) : gI dg (gI l k).toNat = gtN dg (l.take (k + 1)) := by
  rw [gtN_snoc h, ← ha, if_pos hp]
theorem gtN_keep {dg l : List Int} {k : Nat} {a : Int} (h : k < l.length) (ha : a = gtN dg (l.take k)) (hp : ¬ a < gI dg (gI l k).toNat) : a = gtN dg (l.take (k + 1)) := by
  rw [gtN_snoc h, ← ha, if_neg hp]
theorem mxI_pos {a b : Int} (h : a < b) : mxI a b = b := if_pos h
theorem mxI_neg {a b : Int} (h : ¬ a < b) : mxI a b = a := if_neg h
/-- The gates' part, as the document takes it. -/
theorem gate_max {dg l : List Int} {k : Nat} (h : k < l.length) (a : Int) : mxI a (gtN dg (l.take (k + 1)) + 1) = mxI (mxI a (gtN dg (l.take k) + 1)) (gI dg (gI l k).toNat + 1) := by
  rw [gtN_snoc h]
  simp only [mxI]
  repeat' split
  all_goals omega
end Go.Pl
namespace Go.Proofs.Ytpghmnpbfaichaa
open Go.Sx Go.Pl
set_option linter.unusedVariables false
set_option maxRecDepth 100000
theorem rdgS (c : Cir) (K : List It → St → Prop) (R : SV → List HO → Prop) : W (xwp Try.prog X K54 [] 60 (fxOf Try.f61 [] [⟨[0,1,0,1,1,1,1], [5,4,3,1], []⟩, ⟨[0,1,0,1,1,1,1,1], [6,4,3,1], []⟩, ⟨[0,1,0,1,1,0,0,1,0,0,1,0,1,1,1,1,1], [9,7,8,6,4,3,1], []⟩]) [] [.at []] ⟨argsS 0 [.agg [.v (.int .i64 c.fx), .v (.int .i64 c.ad), .v (.int .i64 c.ins), .x 0 [], .x 1 [], .x 2 [], .x 3 []]], [.ext false (.s false 7 c.nodes.length (cN c.nodes)), .ext false (.s false 1 c.gates.length (cI c.gates)), .ext false (.s false 2 c.looks.length (cL c.looks)), .ext false (.s false 2 c.eqs.length (cK c.eqs))]⟩ K R) = W (∃ (l : List Nd), List.length c.4 = List.length l ∧ IsC (List.length c.4) 7 (cN c.4) (cN l) ∧ List.length l ≤ 4000000000000 ∧ bif decide ((0 : Int) < (↑(List.length c.6) : Int)) then K [It.at [0, 1, 0, 1, 1, 1, 1], It.blk 0, It.at [1, 1, 1, 1, 1]] (St.mk [(5, SV.v (vi64 (0 : Int))), (4, SV.v (vi64 (4 : Int))), (3, SV.o 0), (1, SV.p 1 0)] [HO.rowc 3 1 (List.length (degrees l)) (Ct.fn (cI (degrees l))), HO.cells [SV.v (vi64 c.1), SV.v (vi64 c.2), SV.v (vi64 c.3), SV.x 2 [], SV.x 3 [], SV.x 4 [], SV.x 5 []] 27, HO.ext false (Cell.s false 7 (List.length c.4) (cN c.4)), HO.ext false (Cell.s false 1 (List.length c.5) (cI c.5)), HO.ext false (Cell.s false 2 (List.length c.6) (cL c.6)), HO.ext false (Cell.s false 2 (List.length c.7) (cK c.7))]) else bif decide ((0 : Int) < (↑(List.length c.7) : Int)) then K [It.at [0, 1, 0, 1, 1, 1, 1], It.blk 0, It.at [1, 1, 1, 1, 1]] (St.mk [(5, SV.v (vi64 (0 : Int))), (4, SV.v (vi64 (4 : Int))), (3, SV.o 0), (1, SV.p 1 0)] [HO.rowc 3 1 (List.length (degrees l)) (Ct.fn (cI (degrees l))), HO.cells [SV.v (vi64 c.1), SV.v (vi64 c.2), SV.v (vi64 c.3), SV.x 2 [], SV.x 3 [], SV.x 4 [], SV.x 5 []] 27, HO.ext false (Cell.s false 7 (List.length c.4) (cN c.4)), HO.ext false (Cell.s false 1 (List.length c.5) (cI c.5)), HO.ext false (Cell.s false 2 (List.length c.6) (cL c.6)), HO.ext false (Cell.s false 2 (List.length c.7) (cK c.7))]) else K [It.at [0, 1, 0, 1, 1, 1, 1], It.blk 0, It.at [1, 1, 1, 1, 1]] (St.mk [(5, SV.v (vi64 (0 : Int))), (4, SV.v (vi64 (3 : Int))), (3, SV.o 0), (1, SV.p 1 0)] [HO.rowc 3 1 (List.length (degrees l)) (Ct.fn (cI (degrees l))), HO.cells [SV.v (vi64 c.1), SV.v (vi64 c.2), SV.v (vi64 c.3), SV.x 2 [], SV.x 3 [], SV.x 4 [], SV.x 5 []] 27, HO.ext false (Cell.s false 7 (List.length c.4) (cN c.4)), HO.ext false (Cell.s false 1 (List.length c.5) (cI c.5)), HO.ext false (Cell.s false 2 (List.length c.6) (cL c.6)), HO.ext false (Cell.s false 2 (List.length c.7) (cK c.7))])) := by kernel_rfl
theorem rdg1 (c : Cir) (dg : List Int) (m : Int) (k M : Nat) (K : List It → St → Prop) (R : SV → List HO → Prop) : W (xwp Try.prog X K54 [] 60 (fxOf Try.f61 [] [⟨[0,1,0,1,1,1,1], [5,4,3,1], []⟩, ⟨[0,1,0,1,1,1,1,1], [6,4,3,1], []⟩, ⟨[0,1,0,1,1,0,0,1,0,0,1,0,1,1,1,1,1], [9,7,8,6,4,3,1], []⟩]) [] (.at [0,0,1,0,1,1,1,1] :: .rnd [0,0,1,0,1,1,1,1] M :: [.blk 0, .at [1,1,1,1,1]]) ⟨[(5, .v (.int .i64 (k : Int))), (4, .v (.int .i64 m)), (3, .o 0), (1, .p 1 0)], [.rowc 3 1 dg.length (.fn (cI dg)), .cells [.v (.int .i64 c.fx), .v (.int .i64 c.ad), .v (.int .i64 c.ins), .x 2 [], .x 3 [], .x 4 [], .x 5 []] 27, .ext false (.s false 7 c.nodes.length (cN c.nodes)), .ext false (.s false 1 c.gates.length (cI c.gates)), .ext false (.s false 2 c.looks.length (cL c.looks)), .ext false (.s false 2 c.eqs.length (cK c.eqs))]⟩ K R) = W (bif decide ((↑k : Int) < (↑(List.length c.5) : Int)) then (∀ (M : Mem), (0 : Int) ≤ (↑k : Int) ∧ (↑k : Int) < (↑(List.length c.5) : Int)) ∧ (∀ (M : Mem), k < List.length c.5) ∧ (∀ (M : Mem), (0 : Int) ≤ gI c.5 k ∧ gI c.5 k < (↑(List.length dg) : Int)) ∧ (∀ (M : Mem), Int.toNat (gI c.5 k) < List.length dg) ∧ bif decide (m < IntKind.wrap IntKind.i64 (gI dg (Int.toNat (gI c.5 k)) + (1 : Int))) then (∀ (M : Mem), (0 : Int) ≤ (↑k : Int) ∧ (↑k : Int) < (↑(List.length c.5) : Int)) ∧ (∀ (M : Mem), k < List.length c.5) ∧ (∀ (M : Mem), (0 : Int) ≤ gI c.5 k ∧ gI c.5 k < (↑(List.length dg) : Int)) ∧ (∀ (M : Mem), Int.toNat (gI c.5 k) < List.length dg) ∧ K [It.rnd [0, 0, 1, 0, 1, 1, 1, 1] M, It.blk 0, It.at [1, 1, 1, 1, 1]] (St.mk [(5, SV.v (vi64 (IntKind.wrap IntKind.i64 ((↑k : Int) + (1 : Int))))), (4, SV.v (vi64 (IntKind.wrap IntKind.i64 (gI dg (Int.toNat (gI c.5 k)) + (1 : Int))))), (3, SV.o 0), (1, SV.p 1 0)] [HO.rowc 3 1 (List.length dg) (Ct.fn (cI dg)), HO.cells [SV.v (vi64 c.1), SV.v (vi64 c.2), SV.v (vi64 c.3), SV.x 2 [], SV.x 3 [], SV.x 4 [], SV.x 5 []] 27, HO.ext false (Cell.s false 7 (List.length c.4) (cN c.4)), HO.ext false (Cell.s false 1 (List.length c.5) (cI c.5)), HO.ext false (Cell.s false 2 (List.length c.6) (cL c.6)), HO.ext false (Cell.s false 2 (List.length c.7) (cK c.7))]) else K [It.rnd [0, 0, 1, 0, 1, 1, 1, 1] M, It.blk 0, It.at [1, 1, 1, 1, 1]] (St.mk [(5, SV.v (vi64 (IntKind.wrap IntKind.i64 ((↑k : Int) + (1 : Int))))), (4, SV.v (vi64 m)), (3, SV.o 0), (1, SV.p 1 0)] [HO.rowc 3 1 (List.length dg) (Ct.fn (cI dg)), HO.cells [SV.v (vi64 c.1), SV.v (vi64 c.2), SV.v (vi64 c.3), SV.x 2 [], SV.x 3 [], SV.x 4 [], SV.x 5 []] 27, HO.ext false (Cell.s false 7 (List.length c.4) (cN c.4)), HO.ext false (Cell.s false 1 (List.length c.5) (cI c.5)), HO.ext false (Cell.s false 2 (List.length c.6) (cL c.6)), HO.ext false (Cell.s false 2 (List.length c.7) (cK c.7))]) else K [It.at [0, 1, 0, 1, 1, 1, 1, 1], It.blk 2, It.at [1, 1, 1, 1, 1, 1]] (St.mk [(6, SV.v (vi64 (0 : Int))), (4, SV.v (vi64 m)), (3, SV.o 0), (1, SV.p 1 0)] [HO.rowc 3 1 (List.length dg) (Ct.fn (cI dg)), HO.cells [SV.v (vi64 c.1), SV.v (vi64 c.2), SV.v (vi64 c.3), SV.x 2 [], SV.x 3 [], SV.x 4 [], SV.x 5 []] 27, HO.ext false (Cell.s false 7 (List.length c.4) (cN c.4)), HO.ext false (Cell.s false 1 (List.length c.5) (cI c.5)), HO.ext false (Cell.s false 2 (List.length c.6) (cL c.6)), HO.ext false (Cell.s false 2 (List.length c.7) (cK c.7))])) := by kernel_rfl
theorem rdg2 (c : Cir) (dg : List Int) (m : Int) (k M : Nat) (K : List It → St → Prop) (R : SV → List HO → Prop) : W (xwp Try.prog X K54 [] 60 (fxOf Try.f61 [] [⟨[0,1,0,1,1,1,1], [5,4,3,1], []⟩, ⟨[0,1,0,1,1,1,1,1], [6,4,3,1], []⟩, ⟨[0,1,0,1,1,0,0,1,0,0,1,0,1,1,1,1,1], [9,7,8,6,4,3,1], []⟩]) [] (.at [0,0,1,0,1,1,1,1,1] :: .rnd [0,0,1,0,1,1,1,1,1] M :: [.blk 2, .at [1,1,1,1,1,1]]) ⟨[(6, .v (.int .i64 (k : Int))), (4, .v (.int .i64 m)), (3, .o 0), (1, .p 1 0)], [.rowc 3 1 dg.length (.fn (cI dg)), .cells [.v (.int .i64 c.fx), .v (.int .i64 c.ad), .v (.int .i64 c.ins), .x 2 [], .x 3 [], .x 4 [], .x 5 []] 27, .ext false (.s false 7 c.nodes.length (cN c.nodes)), .ext false (.s false 1 c.gates.length (cI c.gates)), .ext false (.s false 2 c.looks.length (cL c.looks)), .ext false (.s false 2 c.eqs.length (cK c.eqs))]⟩ K R) = W (bif decide ((↑k : Int) < (↑(List.length c.6) : Int)) then K [It.at [0, 1, 0, 1, 1, 0, 0, 1, 0, 0, 1, 0, 1, 1, 1, 1, 1], It.blk 4, It.at [1, 1, 1, 0, 0, 1, 0, 0, 1, 0, 1, 1, 1, 1, 1], It.blk 3, It.at [1, 1, 0, 0, 1, 0, 1, 1, 1, 1, 1], It.rnd [0, 0, 1, 0, 1, 1, 1, 1, 1] M, It.blk 2, It.at [1, 1, 1, 1, 1, 1]] (St.mk [(9, SV.v (vi64 (0 : Int))), (7, SV.v (vi64 (0 : Int))), (8, SV.v (vi64 (0 : Int))), (6, SV.v (vi64 (↑k : Int))), (4, SV.v (vi64 m)), (3, SV.o 0), (1, SV.p 1 0)] [HO.rowc 3 1 (List.length dg) (Ct.fn (cI dg)), HO.cells [SV.v (vi64 c.1), SV.v (vi64 c.2), SV.v (vi64 c.3), SV.x 2 [], SV.x 3 [], SV.x 4 [], SV.x 5 []] 27, HO.ext false (Cell.s false 7 (List.length c.4) (cN c.4)), HO.ext false (Cell.s false 1 (List.length c.5) (cI c.5)), HO.ext false (Cell.s false 2 (List.length c.6) (cL c.6)), HO.ext false (Cell.s false 2 (List.length c.7) (cK c.7))]) else R (SV.v (vi64 m)) []) := by kernel_rfl
theorem rdg3 (c : Cir) (dg : List Int) (a b m : Int) (i k M2 M : Nat) (K : List It → St → Prop) (R : SV → List HO → Prop) : W (xwp Try.prog X K54 [] 60 (fxOf Try.f61 [] [⟨[0,1,0,1,1,1,1], [5,4,3,1], []⟩, ⟨[0,1,0,1,1,1,1,1], [6,4,3,1], []⟩, ⟨[0,1,0,1,1,0,0,1,0,0,1,0,1,1,1,1,1], [9,7,8,6,4,3,1], []⟩]) [] (.at [0,0,1,0,1,1,0,0,1,0,0,1,0,1,1,1,1,1] :: .rnd [0,0,1,0,1,1,0,0,1,0,0,1,0,1,1,1,1,1] M :: [.blk 4, .at [1,1,1,0,0,1,0,0,1,0,1,1,1,1,1], .blk 3, .at [1,1,0,0,1,0,1,1,1,1,1], .rnd [0,0,1,0,1,1,1,1,1] M2, .blk 2, .at [1,1,1,1,1,1]]) ⟨[(9, .v (.int .i64 (k : Int))), (7, .v (.int .i64 a)), (8, .v (.int .i64 b)), (6, .v (.int .i64 (i : Int))), (4, .v (.int .i64 m)), (3, .o 0), (1, .p 1 0)], [.rowc 3 1 dg.length (.fn (cI dg)), .cells [.v (.int .i64 c.fx), .v (.int .i64 c.ad), .v (.int .i64 c.ins), .x 2 [], .x 3 [], .x 4 [], .x 5 []] 27, .ext false (.s false 7 c.nodes.length (cN c.nodes)), .ext false (.s false 1 c.gates.length (cI c.gates)), .ext false (.s false 2 c.looks.length (cL c.looks)), .ext false (.s false 2 c.eqs.length (cK c.eqs))]⟩ K R) = W ((∀ (M : Mem), (0 : Int) ≤ (↑i : Int) ∧ (↑i : Int) < (↑(List.length c.6) : Int)) ∧ (∀ (M : Mem), i < List.length c.6) ∧ (∀ (M : Mem), i < List.length c.6) ∧ (∀ (M : Mem), i < List.length c.6) ∧ bif decide ((↑k : Int) < (↑(List.length (gL c.6 i).1) : Int)) then (∀ (M : Mem), (0 : Int) ≤ (↑i : Int) ∧ (↑i : Int) < (↑(List.length c.6) : Int)) ∧ (∀ (M : Mem), i < List.length c.6) ∧ (∀ (M : Mem), i < List.length c.6) ∧ (∀ (M : Mem), i < List.length c.6) ∧ (∀ (M : Mem), (0 : Int) ≤ (↑k : Int) ∧ (↑k : Int) < (↑(List.length (gL c.6 i).1) : Int)) ∧ (∀ (M : Mem), i < List.length c.6) ∧ (∀ (M : Mem), k < List.length (gL c.6 i).1) ∧ (∀ (M : Mem), (0 : Int) ≤ gI (gL c.6 i).1 k ∧ gI (gL c.6 i).1 k < (↑(List.length dg) : Int)) ∧ (∀ (M : Mem), Int.toNat (gI (gL c.6 i).1 k) < List.length dg) ∧ bif decide (a < gI dg (Int.toNat (gI (gL c.6 i).1 k))) then (∀ (M : Mem), (0 : Int) ≤ (↑i : Int) ∧ (↑i : Int) < (↑(List.length c.6) : Int)) ∧ (∀ (M : Mem), i < List.length c.6) ∧ (∀ (M : Mem), i < List.length c.6) ∧ (∀ (M : Mem), i < List.length c.6) ∧ (∀ (M : Mem), (0 : Int) ≤ (↑k : Int) ∧ (↑k : Int) < (↑(List.length (gL c.6 i).1) : Int)) ∧ (∀ (M : Mem), i < List.length c.6) ∧ (∀ (M : Mem), k < List.length (gL c.6 i).1) ∧ (∀ (M : Mem), (0 : Int) ≤ gI (gL c.6 i).1 k ∧ gI (gL c.6 i).1 k < (↑(List.length dg) : Int)) ∧ (∀ (M : Mem), Int.toNat (gI (gL c.6 i).1 k) < List.length dg) ∧ (∀ (M : Mem), (0 : Int) ≤ (↑i : Int) ∧ (↑i : Int) < (↑(List.length c.6) : Int)) ∧ (∀ (M : Mem), i < List.length c.6) ∧ (∀ (M : Mem), i < List.length c.6) ∧ (∀ (M : Mem), i < List.length c.6) ∧ (∀ (M : Mem), (0 : Int) ≤ (↑k : Int) ∧ (↑k : Int) < (↑(List.length (gL c.6 i).2) : Int)) ∧ (∀ (M : Mem), i < List.length c.6) ∧ (∀ (M : Mem), k < List.length (gL c.6 i).2) ∧ (∀ (M : Mem), (0 : Int) ≤ gI (gL c.6 i).2 k ∧ gI (gL c.6 i).2 k < (↑(List.length dg) : Int)) ∧ (∀ (M : Mem), Int.toNat (gI (gL c.6 i).2 k) < List.length dg) ∧ bif decide (b < gI dg (Int.toNat (gI (gL c.6 i).2 k))) then (∀ (M : Mem), (0 : Int) ≤ (↑i : Int) ∧ (↑i : Int) < (↑(List.length c.6) : Int)) ∧ (∀ (M : Mem), i < List.length c.6) ∧ (∀ (M : Mem), i < List.length c.6) ∧ (∀ (M : Mem), i < List.length c.6) ∧ (∀ (M : Mem), (0 : Int) ≤ (↑k : Int) ∧ (↑k : Int) < (↑(List.length (gL c.6 i).2) : Int)) ∧ (∀ (M : Mem), i < List.length c.6) ∧ (∀ (M : Mem), k < List.length (gL c.6 i).2) ∧ (∀ (M : Mem), (0 : Int) ≤ gI (gL c.6 i).2 k ∧ gI (gL c.6 i).2 k < (↑(List.length dg) : Int)) ∧ (∀ (M : Mem), Int.toNat (gI (gL c.6 i).2 k) < List.length dg) ∧ K [It.rnd [0, 0, 1, 0, 1, 1, 0, 0, 1, 0, 0, 1, 0, 1, 1, 1, 1, 1] M, It.blk 4, It.at [1, 1, 1, 0, 0, 1, 0, 0, 1, 0, 1, 1, 1, 1, 1], It.blk 3, It.at [1, 1, 0, 0, 1, 0, 1, 1, 1, 1, 1], It.rnd [0, 0, 1, 0, 1, 1, 1, 1, 1] M2, It.blk 2, It.at [1, 1, 1, 1, 1, 1]] (St.mk [(9, SV.v (vi64 (IntKind.wrap IntKind.i64 ((↑k : Int) + (1 : Int))))), (7, SV.v (vi64 (gI dg (Int.toNat (gI (gL c.6 i).1 k))))), (8, SV.v (vi64 (gI dg (Int.toNat (gI (gL c.6 i).2 k))))), (6, SV.v (vi64 (↑i : Int))), (4, SV.v (vi64 m)), (3, SV.o 0), (1, SV.p 1 0)] [HO.rowc 3 1 (List.length dg) (Ct.fn (cI dg)), HO.cells [SV.v (vi64 c.1), SV.v (vi64 c.2), SV.v (vi64 c.3), SV.x 2 [], SV.x 3 [], SV.x 4 [], SV.x 5 []] 27, HO.ext false (Cell.s false 7 (List.length c.4) (cN c.4)), HO.ext false (Cell.s false 1 (List.length c.5) (cI c.5)), HO.ext false (Cell.s false 2 (List.length c.6) (cL c.6)), HO.ext false (Cell.s false 2 (List.length c.7) (cK c.7))]) else K [It.rnd [0, 0, 1, 0, 1, 1, 0, 0, 1, 0, 0, 1, 0, 1, 1, 1, 1, 1] M, It.blk 4, It.at [1, 1, 1, 0, 0, 1, 0, 0, 1, 0, 1, 1, 1, 1, 1], It.blk 3, It.at [1, 1, 0, 0, 1, 0, 1, 1, 1, 1, 1], It.rnd [0, 0, 1, 0, 1, 1, 1, 1, 1] M2, It.blk 2, It.at [1, 1, 1, 1, 1, 1]] (St.mk [(9, SV.v (vi64 (IntKind.wrap IntKind.i64 ((↑k : Int) + (1 : Int))))), (7, SV.v (vi64 (gI dg (Int.toNat (gI (gL c.6 i).1 k))))), (8, SV.v (vi64 b)), (6, SV.v (vi64 (↑i : Int))), (4, SV.v (vi64 m)), (3, SV.o 0), (1, SV.p 1 0)] [HO.rowc 3 1 (List.length dg) (Ct.fn (cI dg)), HO.cells [SV.v (vi64 c.1), SV.v (vi64 c.2), SV.v (vi64 c.3), SV.x 2 [], SV.x 3 [], SV.x 4 [], SV.x 5 []] 27, HO.ext false (Cell.s false 7 (List.length c.4) (cN c.4)), HO.ext false (Cell.s false 1 (List.length c.5) (cI c.5)), HO.ext false (Cell.s false 2 (List.length c.6) (cL c.6)), HO.ext false (Cell.s false 2 (List.length c.7) (cK c.7))]) else (∀ (M : Mem), (0 : Int) ≤ (↑i : Int) ∧ (↑i : Int) < (↑(List.length c.6) : Int)) ∧ (∀ (M : Mem), i < List.length c.6) ∧ (∀ (M : Mem), i < List.length c.6) ∧ (∀ (M : Mem), i < List.length c.6) ∧ (∀ (M : Mem), (0 : Int) ≤ (↑k : Int) ∧ (↑k : Int) < (↑(List.length (gL c.6 i).2) : Int)) ∧ (∀ (M : Mem), i < List.length c.6) ∧ (∀ (M : Mem), k < List.length (gL c.6 i).2) ∧ (∀ (M : Mem), (0 : Int) ≤ gI (gL c.6 i).2 k ∧ gI (gL c.6 i).2 k < (↑(List.length dg) : Int)) ∧ (∀ (M : Mem), Int.toNat (gI (gL c.6 i).2 k) < List.length dg) ∧ bif decide (b < gI dg (Int.toNat (gI (gL c.6 i).2 k))) then (∀ (M : Mem), (0 : Int) ≤ (↑i : Int) ∧ (↑i : Int) < (↑(List.length c.6) : Int)) ∧ (∀ (M : Mem), i < List.length c.6) ∧ (∀ (M : Mem), i < List.length c.6) ∧ (∀ (M : Mem), i < List.length c.6) ∧ (∀ (M : Mem), (0 : Int) ≤ (↑k : Int) ∧ (↑k : Int) < (↑(List.length (gL c.6 i).2) : Int)) ∧ (∀ (M : Mem), i < List.length c.6) ∧ (∀ (M : Mem), k < List.length (gL c.6 i).2) ∧ (∀ (M : Mem), (0 : Int) ≤ gI (gL c.6 i).2 k ∧ gI (gL c.6 i).2 k < (↑(List.length dg) : Int)) ∧ (∀ (M : Mem), Int.toNat (gI (gL c.6 i).2 k) < List.length dg) ∧ K [It.rnd [0, 0, 1, 0, 1, 1, 0, 0, 1, 0, 0, 1, 0, 1, 1, 1, 1, 1] M, It.blk 4, It.at [1, 1, 1, 0, 0, 1, 0, 0, 1, 0, 1, 1, 1, 1, 1], It.blk 3, It.at [1, 1, 0, 0, 1, 0, 1, 1, 1, 1, 1], It.rnd [0, 0, 1, 0, 1, 1, 1, 1, 1] M2, It.blk 2, It.at [1, 1, 1, 1, 1, 1]] (St.mk [(9, SV.v (vi64 (IntKind.wrap IntKind.i64 ((↑k : Int) + (1 : Int))))), (7, SV.v (vi64 a)), (8, SV.v (vi64 (gI dg (Int.toNat (gI (gL c.6 i).2 k))))), (6, SV.v (vi64 (↑i : Int))), (4, SV.v (vi64 m)), (3, SV.o 0), (1, SV.p 1 0)] [HO.rowc 3 1 (List.length dg) (Ct.fn (cI dg)), HO.cells [SV.v (vi64 c.1), SV.v (vi64 c.2), SV.v (vi64 c.3), SV.x 2 [], SV.x 3 [], SV.x 4 [], SV.x 5 []] 27, HO.ext false (Cell.s false 7 (List.length c.4) (cN c.4)), HO.ext false (Cell.s false 1 (List.length c.5) (cI c.5)), HO.ext false (Cell.s false 2 (List.length c.6) (cL c.6)), HO.ext false (Cell.s false 2 (List.length c.7) (cK c.7))]) else K [It.rnd [0, 0, 1, 0, 1, 1, 0, 0, 1, 0, 0, 1, 0, 1, 1, 1, 1, 1] M, It.blk 4, It.at [1, 1, 1, 0, 0, 1, 0, 0, 1, 0, 1, 1, 1, 1, 1], It.blk 3, It.at [1, 1, 0, 0, 1, 0, 1, 1, 1, 1, 1], It.rnd [0, 0, 1, 0, 1, 1, 1, 1, 1] M2, It.blk 2, It.at [1, 1, 1, 1, 1, 1]] (St.mk [(9, SV.v (vi64 (IntKind.wrap IntKind.i64 ((↑k : Int) + (1 : Int))))), (7, SV.v (vi64 a)), (8, SV.v (vi64 b)), (6, SV.v (vi64 (↑i : Int))), (4, SV.v (vi64 m)), (3, SV.o 0), (1, SV.p 1 0)] [HO.rowc 3 1 (List.length dg) (Ct.fn (cI dg)), HO.cells [SV.v (vi64 c.1), SV.v (vi64 c.2), SV.v (vi64 c.3), SV.x 2 [], SV.x 3 [], SV.x 4 [], SV.x 5 []] 27, HO.ext false (Cell.s false 7 (List.length c.4) (cN c.4)), HO.ext false (Cell.s false 1 (List.length c.5) (cI c.5)), HO.ext false (Cell.s false 2 (List.length c.6) (cL c.6)), HO.ext false (Cell.s false 2 (List.length c.7) (cK c.7))]) else bif decide (m < IntKind.wrap IntKind.i64 (IntKind.wrap IntKind.i64 ((2 : Int) + a) + b)) then K [It.rnd [0, 0, 1, 0, 1, 1, 1, 1, 1] M2, It.blk 2, It.at [1, 1, 1, 1, 1, 1]] (St.mk [(6, SV.v (vi64 (IntKind.wrap IntKind.i64 ((↑i : Int) + (1 : Int))))), (4, SV.v (vi64 (IntKind.wrap IntKind.i64 (IntKind.wrap IntKind.i64 ((2 : Int) + a) + b)))), (3, SV.o 0), (1, SV.p 1 0)] [HO.rowc 3 1 (List.length dg) (Ct.fn (cI dg)), HO.cells [SV.v (vi64 c.1), SV.v (vi64 c.2), SV.v (vi64 c.3), SV.x 2 [], SV.x 3 [], SV.x 4 [], SV.x 5 []] 27, HO.ext false (Cell.s false 7 (List.length c.4) (cN c.4)), HO.ext false (Cell.s false 1 (List.length c.5) (cI c.5)), HO.ext false (Cell.s false 2 (List.length c.6) (cL c.6)), HO.ext false (Cell.s false 2 (List.length c.7) (cK c.7))]) else K [It.rnd [0, 0, 1, 0, 1, 1, 1, 1, 1] M2, It.blk 2, It.at [1, 1, 1, 1, 1, 1]] (St.mk [(6, SV.v (vi64 (IntKind.wrap IntKind.i64 ((↑i : Int) + (1 : Int))))), (4, SV.v (vi64 m)), (3, SV.o 0), (1, SV.p 1 0)] [HO.rowc 3 1 (List.length dg) (Ct.fn (cI dg)), HO.cells [SV.v (vi64 c.1), SV.v (vi64 c.2), SV.v (vi64 c.3), SV.x 2 [], SV.x 3 [], SV.x 4 [], SV.x 5 []] 27, HO.ext false (Cell.s false 7 (List.length c.4) (cN c.4)), HO.ext false (Cell.s false 1 (List.length c.5) (cI c.5)), HO.ext false (Cell.s false 2 (List.length c.6) (cL c.6)), HO.ext false (Cell.s false 2 (List.length c.7) (cK c.7))])) := by kernel_rfl
theorem rdg_in (c : Cir) (hc : c.ok) (dg : List Int) (ho : degOk c dg) (m : Int) (i M2 : Nat) (hi : i < c.looks.length) (hlen : (gL c.looks i).2.length = (gL c.looks i).1.length) (Q : SV → List HO → Prop)
    (next : FOk Try.prog Try.f61 Q (.rnd [0,0,1,0,1,1,1,1,1] M2 :: [.blk 2, .at [1,1,1,1,1,1]]) ⟨[(6, .v (.int .i64 ((i + 1 : Nat) : Int))), (4, .v (.int .i64 (mxI m (2 + gtN dg (gL c.looks i).1 + gtN dg (gL c.looks i).2)))), (3, .o 0), (1, .p 1 0)], [.rowc 3 1 dg.length (.fn (cI dg)), .cells [.v (.int .i64 c.fx), .v (.int .i64 c.ad), .v (.int .i64 c.ins), .x 2 [], .x 3 [], .x 4 [], .x 5 []] 27, .ext false (.s false 7 c.nodes.length (cN c.nodes)), .ext false (.s false 1 c.gates.length (cI c.gates)), .ext false (.s false 2 c.looks.length (cL c.looks)), .ext false (.s false 2 c.eqs.length (cK c.eqs))]⟩) : ∀ (d k : Nat) (a b : Int), k + d = (gL c.looks i).1.length → a = gtN dg ((gL c.looks i).1.take k) → b = gtN dg ((gL c.looks i).2.take k) →
    FOk Try.prog Try.f61 Q (.rnd [0,0,1,0,1,1,0,0,1,0,0,1,0,1,1,1,1,1] (d + 1) :: [.blk 4, .at [1,1,1,0,0,1,0,0,1,0,1,1,1,1,1], .blk 3, .at [1,1,0,0,1,0,1,1,1,1,1], .rnd [0,0,1,0,1,1,1,1,1] M2, .blk 2, .at [1,1,1,1,1,1]]) ⟨[(9, .v (.int .i64 (k : Int))), (7, .v (.int .i64 a)), (8, .v (.int .i64 b)), (6, .v (.int .i64 (i : Int))), (4, .v (.int .i64 m)), (3, .o 0), (1, .p 1 0)], [.rowc 3 1 dg.length (.fn (cI dg)), .cells [.v (.int .i64 c.fx), .v (.int .i64 c.ad), .v (.int .i64 c.ins), .x 2 [], .x 3 [], .x 4 [], .x 5 []] 27, .ext false (.s false 7 c.nodes.length (cN c.nodes)), .ext false (.s false 1 c.gates.length (cI c.gates)), .ext false (.s false 2 c.looks.length (cL c.looks)), .ext false (.s false 2 c.eqs.length (cK c.eqs))]⟩
  | 0, k, a, b, hd, ha, hb => by
    have h1 := hc.l.2
    have t1 := gtN_bnd ho.d (gL c.looks i).1
    have t2 := gtN_bnd ho.d (gL c.looks i).2
    refine FOk.rnd (run_sound hm 60 ((rdg3 c dg a b m i k M2 0 _ _).mpr ⟨?_⟩))
    rw [show k = (gL c.looks i).1.length by omega, List.take_length] at ha
    rw [show k = (gL c.looks i).2.length by omega, List.take_length] at hb
    refine And.intro (fun _ => by omega) (And.intro (fun _ => by omega) (And.intro (fun _ => by omega) (And.intro (fun _ => by omega) ?_)))
    rw [cond_dec, if_neg (by omega), ha, hb, wrap_in (2 + gtN dg (gL c.looks i).1) (by omega), wrap_in (2 + gtN dg (gL c.looks i).1 + gtN dg (gL c.looks i).2) (by omega), wrap_inc i (by omega), cond_dec]
    refine ite_intro (fun h => ?_) (fun h => ?_)
    · rw [mxI_pos h] at next; exact next
    · rw [mxI_neg h] at next; exact next
  | d + 1, k, a, b, hd, ha, hb => by
    have h1 := hc.l.2
    obtain ⟨⟨_, g1⟩, ⟨_, g2⟩⟩ := hc.l.1 _ (gL_mem hi)
    obtain ⟨o1, o2⟩ := ho.l _ (gL_mem hi)
    have hk : k < (gL c.looks i).1.length := by omega
    have hk2 : k < (gL c.looks i).2.length := by omega
    obtain ⟨p1, p2⟩ := o1 _ (gI_mem hk)
    obtain ⟨p3, p4⟩ := o2 _ (gI_mem hk2)
    have rec' := rdg_in c hc dg ho m i M2 hi hlen Q next d (k + 1)
    refine FOk.rnd (run_sound hm 60 ((rdg3 c dg a b m i k M2 (d + 1) _ _).mpr ⟨?_⟩))
    rw [wrap_inc k (by omega)]
    simp only [cond_dec, forall_const]
    refine And.intro (by omega) (And.intro (by omega) (And.intro (by omega) (And.intro (by omega) ?_)))
    rw [if_pos (by omega)]
    repeat' (first | refine And.intro (by omega) ?_ | refine ite_intro (fun h => ?_) (fun h => ?_))
    all_goals first
      | exact rec' _ _ (by omega) (gtN_take hk ha (by assumption)) (gtN_take hk2 hb (by assumption))
      | exact rec' _ _ (by omega) (gtN_take hk ha (by assumption)) (gtN_keep hk2 hb (by assumption))
      | exact rec' _ _ (by omega) (gtN_keep hk ha (by assumption)) (gtN_take hk2 hb (by assumption))
      | exact rec' _ _ (by omega) (gtN_keep hk ha (by assumption)) (gtN_keep hk2 hb (by assumption))
theorem rdg_out (c : Cir) (hc : c.ok) (dg : List Int) (ho : degOk c dg) (hlen : ∀ x ∈ c.looks, x.2.length = x.1.length) (Q : SV → List HO → Prop) (hq : Q (.v (.int .i64 (degP c dg))) []) : ∀ (d k : Nat) (m : Int), k + d = c.looks.length → m = (c.looks.take k).foldl (fun d l => mxI d (2 + gtN dg l.1 + gtN dg l.2)) (mxI (baseN c) (gtN dg c.gates + 1)) →
    FOk Try.prog Try.f61 Q (.rnd [0,0,1,0,1,1,1,1,1] (d + 1) :: [.blk 2, .at [1,1,1,1,1,1]]) ⟨[(6, .v (.int .i64 (k : Int))), (4, .v (.int .i64 m)), (3, .o 0), (1, .p 1 0)], [.rowc 3 1 dg.length (.fn (cI dg)), .cells [.v (.int .i64 c.fx), .v (.int .i64 c.ad), .v (.int .i64 c.ins), .x 2 [], .x 3 [], .x 4 [], .x 5 []] 27, .ext false (.s false 7 c.nodes.length (cN c.nodes)), .ext false (.s false 1 c.gates.length (cI c.gates)), .ext false (.s false 2 c.looks.length (cL c.looks)), .ext false (.s false 2 c.eqs.length (cK c.eqs))]⟩
  | 0, k, m, hd, he => by
    refine FOk.rnd (run_sound hm 60 ((rdg2 c dg m k 0 _ _).mpr ⟨?_⟩))
    rw [cond_dec, if_neg (by omega)]
    rw [show k = c.looks.length by omega, List.take_length] at he
    rw [he]
    exact hq
  | d + 1, k, m, hd, he => by
    have hk : k < c.looks.length := by omega
    refine FOk.rnd (run_sound hm 60 ((rdg2 c dg m k (d + 1) _ _).mpr ⟨?_⟩))
    rw [cond_dec, if_pos (by omega)]
    exact FOk.loop ((gL c.looks k).1.length + 1) (by kernel_rfl) (rdg_in c hc dg ho m k (d + 1) hk (hlen _ (gL_mem hk)) Q (rdg_out c hc dg ho hlen Q hq d (k + 1) _ (by omega) (by rw [foldl_takeL _ _ hk, ← he])) (gL c.looks k).1.length 0 0 0 (by omega) rfl rfl)
theorem rdg_gate (c : Cir) (hc : c.ok) (dg : List Int) (ho : degOk c dg) (hlen : ∀ x ∈ c.looks, x.2.length = x.1.length) (Q : SV → List HO → Prop) (hq : Q (.v (.int .i64 (degP c dg))) []) : ∀ (d k : Nat) (m : Int), k + d = c.gates.length → m = mxI (baseN c) (gtN dg (c.gates.take k) + 1) →
    FOk Try.prog Try.f61 Q (.rnd [0,0,1,0,1,1,1,1] (d + 1) :: [.blk 0, .at [1,1,1,1,1]]) ⟨[(5, .v (.int .i64 (k : Int))), (4, .v (.int .i64 m)), (3, .o 0), (1, .p 1 0)], [.rowc 3 1 dg.length (.fn (cI dg)), .cells [.v (.int .i64 c.fx), .v (.int .i64 c.ad), .v (.int .i64 c.ins), .x 2 [], .x 3 [], .x 4 [], .x 5 []] 27, .ext false (.s false 7 c.nodes.length (cN c.nodes)), .ext false (.s false 1 c.gates.length (cI c.gates)), .ext false (.s false 2 c.looks.length (cL c.looks)), .ext false (.s false 2 c.eqs.length (cK c.eqs))]⟩
  | 0, k, m, hd, he => by
    refine FOk.rnd (run_sound hm 60 ((rdg1 c dg m k 0 _ _).mpr ⟨?_⟩))
    rw [cond_dec, if_neg (by omega)]
    rw [show k = c.gates.length by omega, List.take_length] at he
    exact FOk.loop (c.looks.length + 1) (by kernel_rfl) (rdg_out c hc dg ho hlen Q hq c.looks.length 0 m (by omega) he)
  | d + 1, k, m, hd, he => by
    have hk : k < c.gates.length := by omega
    have h1 := hc.g.2
    obtain ⟨p1, p2⟩ := ho.g _ (gI_mem hk)
    have t := gI_bnd ho.d (gI c.gates k).toNat
    have rec' := rdg_gate c hc dg ho hlen Q hq d (k + 1) (mxI m (gI dg (gI c.gates k).toNat + 1)) (by omega) (by rw [gate_max hk, ← he])
    refine FOk.rnd (run_sound hm 60 ((rdg1 c dg m k (d + 1) _ _).mpr ⟨?_⟩))
    rw [cond_dec, if_pos (by omega), wrap_inc k (by omega), wrap_in (gI dg (gI c.gates k).toNat + 1) (by omega)]
    refine And.intro (fun _ => by omega) (And.intro (fun _ => by omega) (And.intro (fun _ => by omega) (And.intro (fun _ => by omega) (?_))))
    rw [cond_dec]
    refine ite_intro (fun h => ?_) (fun h => ?_)
    · rw [mxI_pos h] at rec'
      exact And.intro (fun _ => by omega) (And.intro (fun _ => by omega) (And.intro (fun _ => by omega) (And.intro (fun _ => by omega) (rec'))))
    · rw [mxI_neg h] at rec'
      exact rec'
theorem bRdg : Try.f61.body.isSome = true := by kernel_rfl
theorem nRdg (c : Cir) : Nat.ble [(.agg [.v (.int .i64 c.fx), .v (.int .i64 c.ad), .v (.int .i64 c.ins), .x 0 [], .x 1 [], .x 2 [], .x 3 []] : SV)].length Try.f61.ntmps = true := by kernel_rfl
theorem rdg_ok (c : Cir) (hc : c.ok) (ho : degOk c (degrees c.nodes)) (hlen : ∀ x ∈ c.looks, x.2.length = x.1.length) (Q : SV → List HO → Prop) (hq : Q (.v (.int .i64 (degP c (degrees c.nodes)))) []) : FnOk Try.prog 61 [.agg [.v (.int .i64 c.fx), .v (.int .i64 c.ad), .v (.int .i64 c.ins), .x 0 [], .x 1 [], .x 2 [], .x 3 []]] [.ext false (.s false 7 c.nodes.length (cN c.nodes)), .ext false (.s false 1 c.gates.length (cI c.gates)), .ext false (.s false 2 c.looks.length (cL c.looks)), .ext false (.s false 2 c.eqs.length (cK c.eqs))] Q := by
  refine fn_of_ok Try.func61 bRdg ?_ ?_
  · exact nRdg c
  have h1 := hc.n.2
  refine run_sound hm 60 ((rdgS c _ _).mpr ⟨?_⟩)
  refine ⟨c.nodes, rfl, IsC.refl _ _ _, by omega, ?_⟩
  have start : ∀ m : Int, m = baseN c → FOk Try.prog Try.f61 Q (.rnd [0,0,1,0,1,1,1,1] (c.gates.length + 1) :: [.blk 0, .at [1,1,1,1,1]]) ⟨[(5, .v (.int .i64 ((0 : Nat) : Int))), (4, .v (.int .i64 m)), (3, .o 0), (1, .p 1 0)], [.rowc 3 1 (degrees c.nodes).length (.fn (cI (degrees c.nodes))), .cells [.v (.int .i64 c.fx), .v (.int .i64 c.ad), .v (.int .i64 c.ins), .x 2 [], .x 3 [], .x 4 [], .x 5 []] 27, .ext false (.s false 7 c.nodes.length (cN c.nodes)), .ext false (.s false 1 c.gates.length (cI c.gates)), .ext false (.s false 2 c.looks.length (cL c.looks)), .ext false (.s false 2 c.eqs.length (cK c.eqs))]⟩ := fun m hm' => by
    refine rdg_gate c hc _ ho hlen Q hq c.gates.length 0 m (by omega) ?_
    rw [hm', mxI, if_neg]
    · have : baseN c = 3 ∨ baseN c = 4 := by rw [baseN]; split <;> simp
      simp only [List.take_zero, gtN, List.foldl_nil]
      omega
  simp only [cond_dec]
  refine ite_intro (fun h => ?_) (fun h => ite_intro (fun h2 => ?_) (fun h2 => ?_))
  · exact FOk.loop (c.gates.length + 1) (by kernel_rfl) (start 4 (by rw [baseN, if_pos (by omega)]))
  · exact FOk.loop (c.gates.length + 1) (by kernel_rfl) (start 4 (by rw [baseN, if_pos (by omega)]))
  · exact FOk.loop (c.gates.length + 1) (by kernel_rfl) (start 3 (by rw [baseN, if_neg (by omega)]))
noncomputable def gRdg : List SV → List HO → Option ((SV → List HO → Prop) → Prop)
  | [.agg [.v (.int .i64 fx), .v (.int .i64 ad), .v (.int .i64 ins), .x 0 [], .x 1 [], .x 2 [], .x 3 []]], [.ext false (.s false 7 n0 c0), .ext false (.s false 1 n1 c1), .ext false (.s false 2 n2 c2), .ext false (.s false 2 n3 c3)] =>
    some fun Q => lC fx ad ins n0 n1 n2 n3 c0 c1 c2 c3 fun c => (degOk c (degrees c.nodes) ∧ ∀ x ∈ c.looks, x.2.length = x.1.length) ∧ Q (.v (.int .i64 (degP c (degrees c.nodes)))) []
  | _, _ => none
theorem gRdg_ok (args : List SV) (h : List HO) (tr : (SV → List HO → Prop) → Prop) (Q : SV → List HO → Prop) (hc : gRdg args h = some tr) (ht : tr Q) : FnOk Try.prog 61 args h Q := by
  unfold gRdg at hc
  split at hc
  · rename_i fx ad ins n0 c0 n1 c1 n2 c2 n3 c3
    simp only [Option.some.injEq] at hc
    subst hc
    obtain ⟨c, rfl, rfl, rfl, ⟨rfl, e0⟩, ⟨rfl, e1⟩, ⟨rfl, e2⟩, ⟨rfl, e3⟩, hk, ho, hq⟩ := ht.h
    exact FnOk.ac (rdg_ok c hk ho.1 ho.2 Q hq) ⟨⟨rfl, rfl, rfl, rfl, e0⟩, ⟨rfl, rfl, rfl, rfl, e1⟩, ⟨rfl, rfl, rfl, rfl, e2⟩, ⟨rfl, rfl, rfl, rfl, e3⟩, trivial⟩
  · cases hc
noncomputable def K55 : Con Try.prog := K54.add 61 gRdg gRdg_ok
end Go.Proofs.Ytpghmnpbfaichaa
/- Is a circuit right? By the document. -/
namespace Go.Pl
open Go.Sx
theorem cnt_at (c : Cir) {k : Int} (h1 : 2 ≤ k) (h2 : k ≤ 4) : [SV.v (.int .i64 c.fx), SV.v (.int .i64 c.ad), SV.v (.int .i64 c.ins)][0 + Int.toNat (IntKind.wrap IntKind.i64 (k - 2)) * 1]? = some (SV.v (.int .i64 (mostK c k))) := by
  have : k = 2 ∨ k = 3 ∨ k = 4 := by omega
  rcases this with rfl | rfl | rfl <;> rfl
theorem mem_takeK {l : List (Int × Int)} {k : Nat} (hk : k < l.length) {x : Int × Int} : x ∈ l.take k ↔ ∃ j, j < k ∧ gK l j = x := by
  constructor
  · intro h
    obtain ⟨j, hj, e⟩ := List.getElem_of_mem h
    rw [List.length_take] at hj
    refine ⟨j, by omega, ?_⟩
    rw [List.getElem_take] at e
    rw [gK, List.getD_eq_getElem?_getD, List.getElem?_eq_getElem (by omega)]
    exact e
  · rintro ⟨j, hj, rfl⟩
    have hj2 : j < (l.take k).length := by rw [List.length_take]; omega
    have : (l.take k)[j] = gK l j := by
      rw [List.getElem_take, gK, List.getD_eq_getElem?_getD, List.getElem?_eq_getElem (by omega)]; rfl
    rw [← this]
    exact List.getElem_mem hj2
theorem any_takeI {p : Int → Bool} {l : List Int} {k : Nat} (h : k < l.length) : (l.take (k + 1)).any p = ((l.take k).any p || p (gI l k)) := by
  rw [take_gI h, List.any_append, List.any_cons, List.any_nil, Bool.or_false]
theorem any_takeL {p : List Int × List Int → Bool} {l : List (List Int × List Int)} {k : Nat} (h : k < l.length) : (l.take (k + 1)).any p = ((l.take k).any p || p (gL l k)) := by
  rw [← take_gL h, List.any_append, List.any_cons, List.any_nil, Bool.or_false]
theorem any_at {α : Type} {p : α → Bool} {l : List α} {x : α} (h : x ∈ l) (hp : p x = true) : l.any p = true := List.any_eq_true.2 ⟨x, h, hp⟩
end Go.Pl
namespace Go.Proofs.Ytpghmnpbfaichaa
open Go.Sx Go.Pl
set_option linter.unusedVariables false
set_option maxRecDepth 100000
theorem rkS (c : Cir) (K : List It → St → Prop) (R : SV → List HO → Prop) : W (xwp Try.prog X K55 [] 60 (fxOf Try.f26 [([0,1,0,1,1,1,1], 4)] [⟨[0,1,0,1,1,1,1,1,1], [6,1,4], []⟩, ⟨[0,1,0,1,1,1,1,1,1,1], [7,1,4], []⟩, ⟨[0,1,1,1,0,0,1,0,0,1,0,1,1,1,1,1,1,1], [9,8,7,1,4], []⟩, ⟨[0,1,0,1,1,1,1,1,1,1,1], [10,1,4], []⟩, ⟨[0,1,1,1,0,0,1,0,0,1,0,1,1,1,1,1,1,1,1], [12,11,10,1,4], []⟩]) [] [.at []] ⟨argsS 0 [.agg [.v (.int .i64 c.fx), .v (.int .i64 c.ad), .v (.int .i64 c.ins), .x 0 [], .x 1 [], .x 2 [], .x 3 []]], [.ext false (.s false 7 c.nodes.length (cN c.nodes)), .ext false (.s false 1 c.gates.length (cI c.gates)), .ext false (.s false 2 c.looks.length (cL c.looks)), .ext false (.s false 2 c.eqs.length (cK c.eqs))]⟩ K R) = W (∃ (l : List Nd), List.length c.4 = List.length l ∧ IsC (List.length c.4) 7 (cN c.4) (cN l) ∧ List.length l ≤ 4000000000000 ∧ bif !chkN l c.1 c.2 c.3 == (0 : Int) then R (SV.v (vi64 (chkN l c.1 c.2 c.3))) [] else (∀ (M : Mem), 0 + 3 ≤ 3) ∧ (∀ (M : Mem), (0 : Int) ≤ (0 : Int) ∧ (0 : Int) < (3 : Int)) ∧ bif decide (c.1 < (0 : Int)) then R (SV.v (vi64 (120 : Int))) [] else (∀ (M : Mem), (0 : Int) ≤ (0 : Int) ∧ (0 : Int) < (3 : Int)) ∧ bif decide ((8 : Int) < c.1) then R (SV.v (vi64 (120 : Int))) [] else (∀ (M : Mem), (0 : Int) ≤ (1 : Int) ∧ (1 : Int) < (3 : Int)) ∧ bif decide (c.2 < (0 : Int)) then R (SV.v (vi64 (120 : Int))) [] else (∀ (M : Mem), (0 : Int) ≤ (1 : Int) ∧ (1 : Int) < (3 : Int)) ∧ bif decide ((8 : Int) < c.2) then R (SV.v (vi64 (120 : Int))) [] else (∀ (M : Mem), (0 : Int) ≤ (2 : Int) ∧ (2 : Int) < (3 : Int)) ∧ bif decide (c.3 < (0 : Int)) then R (SV.v (vi64 (120 : Int))) [] else (∀ (M : Mem), (0 : Int) ≤ (2 : Int) ∧ (2 : Int) < (3 : Int)) ∧ bif decide ((8 : Int) < c.3) then R (SV.v (vi64 (120 : Int))) [] else bif c.2 == (0 : Int) then R (SV.v (vi64 (120 : Int))) [] else bif decide ((16 : Int) < (↑(List.length c.5) : Int)) then R (SV.v (vi64 (120 : Int))) [] else bif decide ((4 : Int) < (↑(List.length c.6) : Int)) then R (SV.v (vi64 (120 : Int))) [] else bif decide ((8 : Int) < (↑(List.length c.7) : Int)) then R (SV.v (vi64 (120 : Int))) [] else K [It.at [0, 1, 0, 1, 1, 1, 1, 1, 1], It.blk 2, It.at [1, 1, 1, 1, 1, 1, 1]] (St.mk [(6, SV.v (vi64 (0 : Int))), (1, SV.p 0 0), (4, SV.p 1 0)] [HO.cells [SV.v (vi64 c.1), SV.v (vi64 c.2), SV.v (vi64 c.3), SV.x 2 [], SV.x 3 [], SV.x 4 [], SV.x 5 []] 27, HO.cells [SV.v (vi64 c.1), SV.v (vi64 c.2), SV.v (vi64 c.3)] 94, HO.ext false (Cell.s false 7 (List.length c.4) (cN c.4)), HO.ext false (Cell.s false 1 (List.length c.5) (cI c.5)), HO.ext false (Cell.s false 2 (List.length c.6) (cL c.6)), HO.ext false (Cell.s false 2 (List.length c.7) (cK c.7))])) := by kernel_rfl
theorem rk1 (c : Cir) (k M : Nat) (K : List It → St → Prop) (R : SV → List HO → Prop) : W (xwp Try.prog X K55 [(48, [])] 60 (fxOf Try.f26 [] [⟨[0,1,0,1,1,1,1,1,1], [6,1,4], []⟩, ⟨[0,1,0,1,1,1,1,1,1,1], [7,1,4], []⟩, ⟨[0,1,1,1,0,0,1,0,0,1,0,1,1,1,1,1,1,1], [9,8,7,1,4], []⟩, ⟨[0,1,0,1,1,1,1,1,1,1,1], [10,1,4], []⟩, ⟨[0,1,1,1,0,0,1,0,0,1,0,1,1,1,1,1,1,1,1], [12,11,10,1,4], []⟩]) [] (.at [0,0,1,0,1,1,1,1,1,1] :: .rnd [0,0,1,0,1,1,1,1,1,1] M :: [.blk 2, .at [1,1,1,1,1,1,1]]) ⟨[(6, .v (.int .i64 (k : Int))), (1, .p 0 0), (4, .p 1 0)], [.cells [.v (.int .i64 c.fx), .v (.int .i64 c.ad), .v (.int .i64 c.ins), .x 2 [], .x 3 [], .x 4 [], .x 5 []] 27, .cells [.v (.int .i64 c.fx), .v (.int .i64 c.ad), .v (.int .i64 c.ins)] 94, .ext false (.s false 7 c.nodes.length (cN c.nodes)), .ext false (.s false 1 c.gates.length (cI c.gates)), .ext false (.s false 2 c.looks.length (cL c.looks)), .ext false (.s false 2 c.eqs.length (cK c.eqs))]⟩ K R) = W (bif decide ((↑k : Int) < (↑(List.length c.5) : Int)) then (∀ (M : Mem), (0 : Int) ≤ (↑k : Int) ∧ (↑k : Int) < (↑(List.length c.5) : Int)) ∧ (∀ (M : Mem), k < List.length c.5) ∧ bif decide ((0 : Int) ≤ gI c.5 k) then bif !decide (gI c.5 k < (↑(List.length c.4) : Int)) then R (SV.v (vi64 (120 : Int))) [] else K [It.rnd [0, 0, 1, 0, 1, 1, 1, 1, 1, 1] M, It.blk 2, It.at [1, 1, 1, 1, 1, 1, 1]] (St.mk [(6, SV.v (vi64 (IntKind.wrap IntKind.i64 ((↑k : Int) + (1 : Int))))), (1, SV.p 0 0), (4, SV.p 1 0)] [HO.cells [SV.v (vi64 c.1), SV.v (vi64 c.2), SV.v (vi64 c.3), SV.x 2 [], SV.x 3 [], SV.x 4 [], SV.x 5 []] 27, HO.cells [SV.v (vi64 c.1), SV.v (vi64 c.2), SV.v (vi64 c.3)] 94, HO.ext false (Cell.s false 7 (List.length c.4) (cN c.4)), HO.ext false (Cell.s false 1 (List.length c.5) (cI c.5)), HO.ext false (Cell.s false 2 (List.length c.6) (cL c.6)), HO.ext false (Cell.s false 2 (List.length c.7) (cK c.7))]) else R (SV.v (vi64 (120 : Int))) [] else K [It.at [0, 1, 0, 1, 1, 1, 1, 1, 1, 1], It.blk 4, It.at [1, 1, 1, 1, 1, 1, 1, 1]] (St.mk [(7, SV.v (vi64 (0 : Int))), (1, SV.p 0 0), (4, SV.p 1 0)] [HO.cells [SV.v (vi64 c.1), SV.v (vi64 c.2), SV.v (vi64 c.3), SV.x 2 [], SV.x 3 [], SV.x 4 [], SV.x 5 []] 27, HO.cells [SV.v (vi64 c.1), SV.v (vi64 c.2), SV.v (vi64 c.3)] 94, HO.ext false (Cell.s false 7 (List.length c.4) (cN c.4)), HO.ext false (Cell.s false 1 (List.length c.5) (cI c.5)), HO.ext false (Cell.s false 2 (List.length c.6) (cL c.6)), HO.ext false (Cell.s false 2 (List.length c.7) (cK c.7))])) := by kernel_rfl
theorem rk2 (c : Cir) (k M : Nat) (K : List It → St → Prop) (R : SV → List HO → Prop) : W (xwp Try.prog X K55 [] 60 (fxOf Try.f26 [] [⟨[0,1,0,1,1,1,1,1,1], [6,1,4], []⟩, ⟨[0,1,0,1,1,1,1,1,1,1], [7,1,4], []⟩, ⟨[0,1,1,1,0,0,1,0,0,1,0,1,1,1,1,1,1,1], [9,8,7,1,4], []⟩, ⟨[0,1,0,1,1,1,1,1,1,1,1], [10,1,4], []⟩, ⟨[0,1,1,1,0,0,1,0,0,1,0,1,1,1,1,1,1,1,1], [12,11,10,1,4], []⟩]) [] (.at [0,0,1,0,1,1,1,1,1,1,1] :: .rnd [0,0,1,0,1,1,1,1,1,1,1] M :: [.blk 4, .at [1,1,1,1,1,1,1,1]]) ⟨[(7, .v (.int .i64 (k : Int))), (1, .p 0 0), (4, .p 1 0)], [.cells [.v (.int .i64 c.fx), .v (.int .i64 c.ad), .v (.int .i64 c.ins), .x 2 [], .x 3 [], .x 4 [], .x 5 []] 27, .cells [.v (.int .i64 c.fx), .v (.int .i64 c.ad), .v (.int .i64 c.ins)] 94, .ext false (.s false 7 c.nodes.length (cN c.nodes)), .ext false (.s false 1 c.gates.length (cI c.gates)), .ext false (.s false 2 c.looks.length (cL c.looks)), .ext false (.s false 2 c.eqs.length (cK c.eqs))]⟩ K R) = W (bif decide ((↑k : Int) < (↑(List.length c.6) : Int)) then (∀ (M : Mem), (0 : Int) ≤ (↑k : Int) ∧ (↑k : Int) < (↑(List.length c.6) : Int)) ∧ (∀ (M : Mem), k < List.length c.6) ∧ (∀ (M : Mem), 0 + 2 ≤ 2) ∧ (∀ (M : Mem), k < List.length c.6) ∧ bif decide ((↑(List.length (gL c.6 k).1) : Int) < (1 : Int)) then R (SV.v (vi64 (120 : Int))) [] else (∀ (M : Mem), k < List.length c.6) ∧ bif decide ((4 : Int) < (↑(List.length (gL c.6 k).1) : Int)) then R (SV.v (vi64 (120 : Int))) [] else (∀ (M : Mem), k < List.length c.6) ∧ (∀ (M : Mem), k < List.length c.6) ∧ bif !(↑(List.length (gL c.6 k).2) : Int) == (↑(List.length (gL c.6 k).1) : Int) then R (SV.v (vi64 (120 : Int))) [] else K [It.at [0, 1, 1, 1, 0, 0, 1, 0, 0, 1, 0, 1, 1, 1, 1, 1, 1, 1], It.blk 6, It.blk 5, It.at [1, 1, 0, 0, 1, 0, 1, 1, 1, 1, 1, 1, 1], It.rnd [0, 0, 1, 0, 1, 1, 1, 1, 1, 1, 1] M, It.blk 4, It.at [1, 1, 1, 1, 1, 1, 1, 1]] (St.mk [(9, SV.v (vi64 (0 : Int))), (8, SV.p 0 0), (7, SV.v (vi64 (↑k : Int))), (1, SV.p 1 0), (4, SV.p 2 0)] [HO.cells [SV.x 3 [(2, k, 0)], SV.x 3 [(2, k, 1)]] 71, HO.cells [SV.v (vi64 c.1), SV.v (vi64 c.2), SV.v (vi64 c.3), SV.x 4 [], SV.x 5 [], SV.x 3 [], SV.x 6 []] 27, HO.cells [SV.v (vi64 c.1), SV.v (vi64 c.2), SV.v (vi64 c.3)] 94, HO.ext false (Cell.s false 2 (List.length c.6) (cL c.6)), HO.ext false (Cell.s false 7 (List.length c.4) (cN c.4)), HO.ext false (Cell.s false 1 (List.length c.5) (cI c.5)), HO.ext false (Cell.s false 2 (List.length c.7) (cK c.7))]) else K [It.at [0, 1, 0, 1, 1, 1, 1, 1, 1, 1, 1], It.blk 8, It.at [1, 1, 1, 1, 1, 1, 1, 1, 1]] (St.mk [(10, SV.v (vi64 (0 : Int))), (1, SV.p 0 0), (4, SV.p 1 0)] [HO.cells [SV.v (vi64 c.1), SV.v (vi64 c.2), SV.v (vi64 c.3), SV.x 2 [], SV.x 3 [], SV.x 4 [], SV.x 5 []] 27, HO.cells [SV.v (vi64 c.1), SV.v (vi64 c.2), SV.v (vi64 c.3)] 94, HO.ext false (Cell.s false 7 (List.length c.4) (cN c.4)), HO.ext false (Cell.s false 1 (List.length c.5) (cI c.5)), HO.ext false (Cell.s false 2 (List.length c.6) (cL c.6)), HO.ext false (Cell.s false 2 (List.length c.7) (cK c.7))])) := by kernel_rfl
theorem rk3 (c : Cir) (i k M2 M : Nat) (K : List It → St → Prop) (R : SV → List HO → Prop) : W (xwp Try.prog X K55 [] 60 (fxOf Try.f26 [] [⟨[0,1,0,1,1,1,1,1,1], [6,1,4], []⟩, ⟨[0,1,0,1,1,1,1,1,1,1], [7,1,4], []⟩, ⟨[0,1,1,1,0,0,1,0,0,1,0,1,1,1,1,1,1,1], [9,8,7,1,4], []⟩, ⟨[0,1,0,1,1,1,1,1,1,1,1], [10,1,4], []⟩, ⟨[0,1,1,1,0,0,1,0,0,1,0,1,1,1,1,1,1,1,1], [12,11,10,1,4], []⟩]) [] (.at [0,0,1,1,1,0,0,1,0,0,1,0,1,1,1,1,1,1,1] :: .rnd [0,0,1,1,1,0,0,1,0,0,1,0,1,1,1,1,1,1,1] M :: [.blk 6, .blk 5, .at [1,1,0,0,1,0,1,1,1,1,1,1,1], .rnd [0,0,1,0,1,1,1,1,1,1,1] M2, .blk 4, .at [1,1,1,1,1,1,1,1]]) ⟨[(9, .v (.int .i64 (k : Int))), (8, .p 0 0), (7, .v (.int .i64 (i : Int))), (1, .p 1 0), (4, .p 2 0)], [.cells [.x 3 [(2, i, 0)], .x 3 [(2, i, 1)]] 71, .cells [.v (.int .i64 c.fx), .v (.int .i64 c.ad), .v (.int .i64 c.ins), .x 4 [], .x 5 [], .x 3 [], .x 6 []] 27, .cells [.v (.int .i64 c.fx), .v (.int .i64 c.ad), .v (.int .i64 c.ins)] 94, .ext false (.s false 2 c.looks.length (cL c.looks)), .ext false (.s false 7 c.nodes.length (cN c.nodes)), .ext false (.s false 1 c.gates.length (cI c.gates)), .ext false (.s false 2 c.eqs.length (cK c.eqs))]⟩ K R) = W ((∀ (M : Mem), i < List.length c.6) ∧ bif decide ((↑k : Int) < (↑(List.length (gL c.6 i).1) : Int)) then (∀ (M : Mem), i < List.length c.6) ∧ (∀ (M : Mem), (0 : Int) ≤ (↑k : Int) ∧ (↑k : Int) < (↑(List.length (gL c.6 i).1) : Int)) ∧ (∀ (M : Mem), i < List.length c.6) ∧ (∀ (M : Mem), k < List.length (gL c.6 i).1) ∧ lC c.1 c.2 c.3 (List.length c.4) (List.length c.5) (List.length c.6) (List.length c.7) (cN c.4) (cI c.5) (cL c.6) (cK c.7) fun (c_1 : Cir) => bif !flatB c_1 (gI (gL c.6 i).1 k) then R (SV.v (vi64 (120 : Int))) [] else (∀ (M : Mem), i < List.length c.6) ∧ (∀ (M : Mem), (0 : Int) ≤ (↑k : Int) ∧ (↑k : Int) < (↑(List.length (gL c.6 i).2) : Int)) ∧ (∀ (M : Mem), i < List.length c.6) ∧ (∀ (M : Mem), k < List.length (gL c.6 i).2) ∧ lC c.1 c.2 c.3 (List.length c.4) (List.length c.5) (List.length c.6) (List.length c.7) (cN c.4) (cI c.5) (cL c.6) (cK c.7) fun (c_2 : Cir) => bif !flatB c_2 (gI (gL c.6 i).2 k) then R (SV.v (vi64 (120 : Int))) [] else K [It.rnd [0, 0, 1, 1, 1, 0, 0, 1, 0, 0, 1, 0, 1, 1, 1, 1, 1, 1, 1] M, It.blk 6, It.blk 5, It.at [1, 1, 0, 0, 1, 0, 1, 1, 1, 1, 1, 1, 1], It.rnd [0, 0, 1, 0, 1, 1, 1, 1, 1, 1, 1] M2, It.blk 4, It.at [1, 1, 1, 1, 1, 1, 1, 1]] (St.mk [(9, SV.v (vi64 (IntKind.wrap IntKind.i64 ((↑k : Int) + (1 : Int))))), (8, SV.p 0 0), (7, SV.v (vi64 (↑i : Int))), (1, SV.p 1 0), (4, SV.p 2 0)] [HO.cells [SV.x 3 [(2, i, 0)], SV.x 3 [(2, i, 1)]] 71, HO.cells [SV.v (vi64 c.1), SV.v (vi64 c.2), SV.v (vi64 c.3), SV.x 4 [], SV.x 5 [], SV.x 3 [], SV.x 6 []] 27, HO.cells [SV.v (vi64 c.1), SV.v (vi64 c.2), SV.v (vi64 c.3)] 94, HO.ext false (Cell.s false 2 (List.length c.6) (cL c.6)), HO.ext false (Cell.s false 7 (List.length c.4) (cN c.4)), HO.ext false (Cell.s false 1 (List.length c.5) (cI c.5)), HO.ext false (Cell.s false 2 (List.length c.7) (cK c.7))]) else K [It.rnd [0, 0, 1, 0, 1, 1, 1, 1, 1, 1, 1] M2, It.blk 4, It.at [1, 1, 1, 1, 1, 1, 1, 1]] (St.mk [(7, SV.v (vi64 (IntKind.wrap IntKind.i64 ((↑i : Int) + (1 : Int))))), (1, SV.p 0 0), (4, SV.p 1 0)] [HO.cells [SV.v (vi64 c.1), SV.v (vi64 c.2), SV.v (vi64 c.3), SV.x 2 [], SV.x 3 [], SV.x 4 [], SV.x 5 []] 27, HO.cells [SV.v (vi64 c.1), SV.v (vi64 c.2), SV.v (vi64 c.3)] 94, HO.ext false (Cell.s false 7 (List.length c.4) (cN c.4)), HO.ext false (Cell.s false 1 (List.length c.5) (cI c.5)), HO.ext false (Cell.s false 2 (List.length c.6) (cL c.6)), HO.ext false (Cell.s false 2 (List.length c.7) (cK c.7))])) := by kernel_rfl
theorem rk4 (c : Cir) (k M : Nat) (K : List It → St → Prop) (R : SV → List HO → Prop) : W (xwp Try.prog X K55 [] 60 (fxOf Try.f26 [] [⟨[0,1,0,1,1,1,1,1,1], [6,1,4], []⟩, ⟨[0,1,0,1,1,1,1,1,1,1], [7,1,4], []⟩, ⟨[0,1,1,1,0,0,1,0,0,1,0,1,1,1,1,1,1,1], [9,8,7,1,4], []⟩, ⟨[0,1,0,1,1,1,1,1,1,1,1], [10,1,4], []⟩, ⟨[0,1,1,1,0,0,1,0,0,1,0,1,1,1,1,1,1,1,1], [12,11,10,1,4], []⟩]) [.lo 1 (.v (.int .i64 (mostK c (gK c.eqs k).1)))] (.at [0,0,1,0,1,1,1,1,1,1,1,1] :: .rnd [0,0,1,0,1,1,1,1,1,1,1,1] M :: [.blk 8, .at [1,1,1,1,1,1,1,1,1]]) ⟨[(10, .v (.int .i64 (k : Int))), (1, .p 0 0), (4, .p 1 0)], [.cells [.v (.int .i64 c.fx), .v (.int .i64 c.ad), .v (.int .i64 c.ins), .x 2 [], .x 3 [], .x 4 [], .x 5 []] 27, .cells [.v (.int .i64 c.fx), .v (.int .i64 c.ad), .v (.int .i64 c.ins)] 94, .ext false (.s false 7 c.nodes.length (cN c.nodes)), .ext false (.s false 1 c.gates.length (cI c.gates)), .ext false (.s false 2 c.looks.length (cL c.looks)), .ext false (.s false 2 c.eqs.length (cK c.eqs))]⟩ K R) = W (bif decide ((↑k : Int) < (↑(List.length c.7) : Int)) then (∀ (M : Mem), (0 : Int) ≤ (↑k : Int) ∧ (↑k : Int) < (↑(List.length c.7) : Int)) ∧ (∀ (M : Mem), k < List.length c.7) ∧ (∀ (M : Mem), 0 + 2 ≤ 2) ∧ bif decide ((gK c.7 k).1 < (2 : Int)) then R (SV.v (vi64 (120 : Int))) [] else bif decide ((4 : Int) < (gK c.7 k).1) then R (SV.v (vi64 (120 : Int))) [] else bif decide ((gK c.7 k).2 < (0 : Int)) then R (SV.v (vi64 (120 : Int))) [] else (∀ (M : Mem), (0 : Int) ≤ IntKind.wrap IntKind.i64 ((gK c.7 k).1 - (2 : Int)) ∧ IntKind.wrap IntKind.i64 ((gK c.7 k).1 - (2 : Int)) < (3 : Int)) ∧ (∀ (M : Mem), [SV.v (vi64 c.1), SV.v (vi64 c.2), SV.v (vi64 c.3)][0 + Int.toNat (IntKind.wrap IntKind.i64 ((gK c.7 k).1 - (2 : Int))) * 1]? = some (SV.v (vi64 (mostK c (gK c.7 k).1)))) ∧ bif decide (mostK c (gK c.7 k).1 ≤ (gK c.7 k).2) then R (SV.v (vi64 (120 : Int))) [] else K [It.at [0, 1, 1, 1, 0, 0, 1, 0, 0, 1, 0, 1, 1, 1, 1, 1, 1, 1, 1], It.blk 10, It.blk 9, It.at [1, 1, 0, 0, 1, 0, 1, 1, 1, 1, 1, 1, 1, 1], It.rnd [0, 0, 1, 0, 1, 1, 1, 1, 1, 1, 1, 1] M, It.blk 8, It.at [1, 1, 1, 1, 1, 1, 1, 1, 1]] (St.mk [(12, SV.v (vi64 (0 : Int))), (11, SV.p 0 0), (10, SV.v (vi64 (↑k : Int))), (1, SV.p 1 0), (4, SV.p 2 0)] [HO.cells [SV.v (vi64 (gK c.7 k).1), SV.v (vi64 (gK c.7 k).2)] 96, HO.cells [SV.v (vi64 c.1), SV.v (vi64 c.2), SV.v (vi64 c.3), SV.x 3 [], SV.x 4 [], SV.x 5 [], SV.x 6 []] 27, HO.cells [SV.v (vi64 c.1), SV.v (vi64 c.2), SV.v (vi64 c.3)] 94, HO.ext false (Cell.s false 7 (List.length c.4) (cN c.4)), HO.ext false (Cell.s false 1 (List.length c.5) (cI c.5)), HO.ext false (Cell.s false 2 (List.length c.6) (cL c.6)), HO.ext false (Cell.s false 2 (List.length c.7) (cK c.7))]) else lC c.1 c.2 c.3 (List.length c.4) (List.length c.5) (List.length c.6) (List.length c.7) (cN c.4) (cI c.5) (cL c.6) (cK c.7) fun (c : Cir) => (degOk c (degrees c.4) ∧ ∀ (x : List Int × List Int), x ∈ c.6 → List.length x.2 = List.length x.1) ∧ bif decide ((8 : Int) < degP c (degrees c.4)) then R (SV.v (vi64 (120 : Int))) [] else R (SV.v (vi64 (0 : Int))) []) := by kernel_rfl
theorem rk5 (c : Cir) (i k M2 M : Nat) (K : List It → St → Prop) (R : SV → List HO → Prop) : W (xwp Try.prog X K55 [] 60 (fxOf Try.f26 [] [⟨[0,1,0,1,1,1,1,1,1], [6,1,4], []⟩, ⟨[0,1,0,1,1,1,1,1,1,1], [7,1,4], []⟩, ⟨[0,1,1,1,0,0,1,0,0,1,0,1,1,1,1,1,1,1], [9,8,7,1,4], []⟩, ⟨[0,1,0,1,1,1,1,1,1,1,1], [10,1,4], []⟩, ⟨[0,1,1,1,0,0,1,0,0,1,0,1,1,1,1,1,1,1,1], [12,11,10,1,4], []⟩]) [] (.at [0,0,1,1,1,0,0,1,0,0,1,0,1,1,1,1,1,1,1,1] :: .rnd [0,0,1,1,1,0,0,1,0,0,1,0,1,1,1,1,1,1,1,1] M :: [.blk 10, .blk 9, .at [1,1,0,0,1,0,1,1,1,1,1,1,1,1], .rnd [0,0,1,0,1,1,1,1,1,1,1,1] M2, .blk 8, .at [1,1,1,1,1,1,1,1,1]]) ⟨[(12, .v (.int .i64 (k : Int))), (11, .p 0 0), (10, .v (.int .i64 (i : Int))), (1, .p 1 0), (4, .p 2 0)], [.cells [.v (.int .i64 (gK c.eqs i).1), .v (.int .i64 (gK c.eqs i).2)] 96, .cells [.v (.int .i64 c.fx), .v (.int .i64 c.ad), .v (.int .i64 c.ins), .x 3 [], .x 4 [], .x 5 [], .x 6 []] 27, .cells [.v (.int .i64 c.fx), .v (.int .i64 c.ad), .v (.int .i64 c.ins)] 94, .ext false (.s false 7 c.nodes.length (cN c.nodes)), .ext false (.s false 1 c.gates.length (cI c.gates)), .ext false (.s false 2 c.looks.length (cL c.looks)), .ext false (.s false 2 c.eqs.length (cK c.eqs))]⟩ K R) = W (bif decide ((↑k : Int) < (↑i : Int)) then (∀ (M : Mem), (0 : Int) ≤ (↑k : Int) ∧ (↑k : Int) < (↑(List.length c.7) : Int)) ∧ (∀ (M : Mem), k < List.length c.7) ∧ bif decide ([(gK c.7 k).1, (gK c.7 k).2] = [(gK c.7 i).1, (gK c.7 i).2]) then R (SV.v (vi64 (120 : Int))) [] else K [It.rnd [0, 0, 1, 1, 1, 0, 0, 1, 0, 0, 1, 0, 1, 1, 1, 1, 1, 1, 1, 1] M, It.blk 10, It.blk 9, It.at [1, 1, 0, 0, 1, 0, 1, 1, 1, 1, 1, 1, 1, 1], It.rnd [0, 0, 1, 0, 1, 1, 1, 1, 1, 1, 1, 1] M2, It.blk 8, It.at [1, 1, 1, 1, 1, 1, 1, 1, 1]] (St.mk [(12, SV.v (vi64 (IntKind.wrap IntKind.i64 ((↑k : Int) + (1 : Int))))), (11, SV.p 0 0), (10, SV.v (vi64 (↑i : Int))), (1, SV.p 1 0), (4, SV.p 2 0)] [HO.cells [SV.v (vi64 (gK c.7 i).1), SV.v (vi64 (gK c.7 i).2)] 96, HO.cells [SV.v (vi64 c.1), SV.v (vi64 c.2), SV.v (vi64 c.3), SV.x 3 [], SV.x 4 [], SV.x 5 [], SV.x 6 []] 27, HO.cells [SV.v (vi64 c.1), SV.v (vi64 c.2), SV.v (vi64 c.3)] 94, HO.ext false (Cell.s false 7 (List.length c.4) (cN c.4)), HO.ext false (Cell.s false 1 (List.length c.5) (cI c.5)), HO.ext false (Cell.s false 2 (List.length c.6) (cL c.6)), HO.ext false (Cell.s false 2 (List.length c.7) (cK c.7))]) else K [It.rnd [0, 0, 1, 0, 1, 1, 1, 1, 1, 1, 1, 1] M2, It.blk 8, It.at [1, 1, 1, 1, 1, 1, 1, 1, 1]] (St.mk [(10, SV.v (vi64 (IntKind.wrap IntKind.i64 ((↑i : Int) + (1 : Int))))), (1, SV.p 0 0), (4, SV.p 1 0)] [HO.cells [SV.v (vi64 c.1), SV.v (vi64 c.2), SV.v (vi64 c.3), SV.x 2 [], SV.x 3 [], SV.x 4 [], SV.x 5 []] 27, HO.cells [SV.v (vi64 c.1), SV.v (vi64 c.2), SV.v (vi64 c.3)] 94, HO.ext false (Cell.s false 7 (List.length c.4) (cN c.4)), HO.ext false (Cell.s false 1 (List.length c.5) (cI c.5)), HO.ext false (Cell.s false 2 (List.length c.6) (cL c.6)), HO.ext false (Cell.s false 2 (List.length c.7) (cK c.7))])) := by kernel_rfl
theorem rk_in (c : Cir) (hc : c.ok) (i M2 : Nat) (hi : i < c.eqs.length) (Q : SV → List HO → Prop) (no : (∃ j, j < i ∧ gK c.eqs j = gK c.eqs i) → Q (.v (.int .i64 120)) [])
    (next : (¬ ∃ j, j < i ∧ gK c.eqs j = gK c.eqs i) → FOk Try.prog Try.f26 Q (.rnd [0,0,1,0,1,1,1,1,1,1,1,1] M2 :: [.blk 8, .at [1,1,1,1,1,1,1,1,1]]) ⟨[(10, .v (.int .i64 ((i + 1 : Nat) : Int))), (1, .p 0 0), (4, .p 1 0)], [.cells [.v (.int .i64 c.fx), .v (.int .i64 c.ad), .v (.int .i64 c.ins), .x 2 [], .x 3 [], .x 4 [], .x 5 []] 27, .cells [.v (.int .i64 c.fx), .v (.int .i64 c.ad), .v (.int .i64 c.ins)] 94, .ext false (.s false 7 c.nodes.length (cN c.nodes)), .ext false (.s false 1 c.gates.length (cI c.gates)), .ext false (.s false 2 c.looks.length (cL c.looks)), .ext false (.s false 2 c.eqs.length (cK c.eqs))]⟩) : ∀ (d k : Nat), k + d = i → (∀ j, j < k → gK c.eqs j ≠ gK c.eqs i) →
    FOk Try.prog Try.f26 Q (.rnd [0,0,1,1,1,0,0,1,0,0,1,0,1,1,1,1,1,1,1,1] (d + 1) :: [.blk 10, .blk 9, .at [1,1,0,0,1,0,1,1,1,1,1,1,1,1], .rnd [0,0,1,0,1,1,1,1,1,1,1,1] M2, .blk 8, .at [1,1,1,1,1,1,1,1,1]]) ⟨[(12, .v (.int .i64 (k : Int))), (11, .p 0 0), (10, .v (.int .i64 (i : Int))), (1, .p 1 0), (4, .p 2 0)], [.cells [.v (.int .i64 (gK c.eqs i).1), .v (.int .i64 (gK c.eqs i).2)] 96, .cells [.v (.int .i64 c.fx), .v (.int .i64 c.ad), .v (.int .i64 c.ins), .x 3 [], .x 4 [], .x 5 [], .x 6 []] 27, .cells [.v (.int .i64 c.fx), .v (.int .i64 c.ad), .v (.int .i64 c.ins)] 94, .ext false (.s false 7 c.nodes.length (cN c.nodes)), .ext false (.s false 1 c.gates.length (cI c.gates)), .ext false (.s false 2 c.looks.length (cL c.looks)), .ext false (.s false 2 c.eqs.length (cK c.eqs))]⟩
  | 0, k, hd, he => by
    have h1 := hc.e.2
    refine FOk.rnd (run_sound hm 60 ((rk5 c i k M2 0 _ _).mpr ⟨?_⟩))
    rw [cond_dec, if_neg (by omega), wrap_inc i (by omega)]
    exact next fun ⟨j, hj, e⟩ => he j (by omega) e
  | d + 1, k, hd, he => by
    have h1 := hc.e.2
    refine FOk.rnd (run_sound hm 60 ((rk5 c i k M2 (d + 1) _ _).mpr ⟨?_⟩))
    rw [cond_dec, if_pos (by omega), wrap_inc k (by omega), cond_dec]
    refine And.intro (fun _ => by omega) (And.intro (fun _ => by omega) (ite_intro (fun h => ?_) (fun h => ?_)))
    · exact no ⟨k, by omega, prK_inj.1 h⟩
    · refine rk_in c hc i M2 hi Q no next d (k + 1) (by omega) fun j hj => ?_
      by_cases hjk : j = k
      · rw [hjk]; exact fun e => h (prK_inj.2 e)
      · exact he j (by omega)
theorem rk_eqs (c : Cir) (hc : c.ok) (h0 : chkN c.nodes c.fx c.ad c.ins = 0) (hct : cntB c = true) (hg : c.gates.any (fun n => !placeB c n) = false) (hl : c.looks.any (fun x => !lookB c x) = false) (Q : SV → List HO → Prop) (yes : goodB c = true → Q (.v (.int .i64 0)) []) (no : goodB c = false → Q (.v (.int .i64 120)) []) : ∀ (d k : Nat), k + d = c.eqs.length → eqF c [] c.eqs = eqF c (c.eqs.take k) (c.eqs.drop k) →
    FOk Try.prog Try.f26 Q (.rnd [0,0,1,0,1,1,1,1,1,1,1,1] (d + 1) :: [.blk 8, .at [1,1,1,1,1,1,1,1,1]]) ⟨[(10, .v (.int .i64 (k : Int))), (1, .p 0 0), (4, .p 1 0)], [.cells [.v (.int .i64 c.fx), .v (.int .i64 c.ad), .v (.int .i64 c.ins), .x 2 [], .x 3 [], .x 4 [], .x 5 []] 27, .cells [.v (.int .i64 c.fx), .v (.int .i64 c.ad), .v (.int .i64 c.ins)] 94, .ext false (.s false 7 c.nodes.length (cN c.nodes)), .ext false (.s false 1 c.gates.length (cI c.gates)), .ext false (.s false 2 c.looks.length (cL c.looks)), .ext false (.s false 2 c.eqs.length (cK c.eqs))]⟩
  | 0, k, hd, he => by
    refine FOk.rnd (run_sound hm 60 ((rk4 c k 0 _ _).mpr ⟨?_⟩))
    rw [cond_dec, if_neg (by omega)]
    rw [show k = c.eqs.length by omega, List.drop_length, eqF] at he
    refine lC_mk c hc ⟨⟨degOk_of h0 hg hl, fun x hx => (look_places (any_not hl x hx)).2.2.2.2⟩, ?_⟩
    rw [cond_dec]
    refine ite_intro (fun h => no ?_) (fun h => yes ?_)
    · rw [goodB, decide_eq_false (by omega)]; simp
    · rw [goodB, hct, hg, hl, he, decide_eq_true (by omega)]; rfl
  | d + 1, k, hd, he => by
    have hk : k < c.eqs.length := by omega
    rw [drop_gK hk, eqF] at he
    have bad : (okK c (gK c.eqs k) && !decide (gK c.eqs k ∈ c.eqs.take k)) = false → Q (.v (.int .i64 120)) [] := fun h => no (by rw [goodB, he, h]; simp)
    refine FOk.rnd (run_sound hm 60 ((rk4 c k (d + 1) _ _).mpr ⟨?_⟩))
    rw [cond_dec, if_pos (by omega)]
    simp only [cond_dec]
    refine And.intro (fun _ => by omega) (And.intro (fun _ => by omega) (And.intro (fun _ => by omega) (ite_intro (fun h1 => bad ?_) (fun h1 => ite_intro (fun h2 => bad ?_) (fun h2 => ite_intro (fun h3 => bad ?_) (fun h3 => And.intro (fun _ => ?_) (And.intro (fun _ => ?_) (ite_intro (fun h4 => bad ?_) (fun h4 => ?_)))))))))
    · rw [okK, decide_eq_false (by omega)]; rfl
    · rw [okK, decide_eq_false (by omega)]; rfl
    · rw [okK, decide_eq_false (by omega)]; rfl
    · rw [wrap_in ((gK c.eqs k).1 - 2) (by omega)]; omega
    · exact cnt_at c (by omega) (by omega)
    · rw [okK, decide_eq_false (by omega)]; rfl
    · refine FOk.loop (k + 1) (by kernel_rfl) (rk_in c hc k (d + 1) hk Q (fun hx => bad ?_) (fun hx => ?_) k 0 (by omega) (fun j hj => by omega))
      · rw [decide_eq_true ((mem_takeK hk).2 hx)]; simp
      · refine rk_eqs c hc h0 hct hg hl Q yes no d (k + 1) (by omega) ?_
        rw [he, okK, decide_eq_true (by omega), decide_eq_false (fun hh => hx ((mem_takeK hk).1 hh)), take_gK hk]; rfl
theorem rk_lin (c : Cir) (hc : c.ok) (i M2 : Nat) (hi : i < c.looks.length) (hA : 1 ≤ (gL c.looks i).1.length ∧ (gL c.looks i).1.length ≤ 4 ∧ (gL c.looks i).2.length = (gL c.looks i).1.length) (Q : SV → List HO → Prop) (no : lookB c (gL c.looks i) = false → Q (.v (.int .i64 120)) [])
    (next : lookB c (gL c.looks i) = true → FOk Try.prog Try.f26 Q (.rnd [0,0,1,0,1,1,1,1,1,1,1] M2 :: [.blk 4, .at [1,1,1,1,1,1,1,1]]) ⟨[(7, .v (.int .i64 ((i + 1 : Nat) : Int))), (1, .p 0 0), (4, .p 1 0)], [.cells [.v (.int .i64 c.fx), .v (.int .i64 c.ad), .v (.int .i64 c.ins), .x 2 [], .x 3 [], .x 4 [], .x 5 []] 27, .cells [.v (.int .i64 c.fx), .v (.int .i64 c.ad), .v (.int .i64 c.ins)] 94, .ext false (.s false 7 c.nodes.length (cN c.nodes)), .ext false (.s false 1 c.gates.length (cI c.gates)), .ext false (.s false 2 c.looks.length (cL c.looks)), .ext false (.s false 2 c.eqs.length (cK c.eqs))]⟩) : ∀ (d k : Nat), k + d = (gL c.looks i).1.length → ((gL c.looks i).1.take k).any (fun n => !flatB c n) = false → ((gL c.looks i).2.take k).any (fun n => !flatB c n) = false →
    FOk Try.prog Try.f26 Q (.rnd [0,0,1,1,1,0,0,1,0,0,1,0,1,1,1,1,1,1,1] (d + 1) :: [.blk 6, .blk 5, .at [1,1,0,0,1,0,1,1,1,1,1,1,1], .rnd [0,0,1,0,1,1,1,1,1,1,1] M2, .blk 4, .at [1,1,1,1,1,1,1,1]]) ⟨[(9, .v (.int .i64 (k : Int))), (8, .p 0 0), (7, .v (.int .i64 (i : Int))), (1, .p 1 0), (4, .p 2 0)], [.cells [.x 3 [(2, i, 0)], .x 3 [(2, i, 1)]] 71, .cells [.v (.int .i64 c.fx), .v (.int .i64 c.ad), .v (.int .i64 c.ins), .x 4 [], .x 5 [], .x 3 [], .x 6 []] 27, .cells [.v (.int .i64 c.fx), .v (.int .i64 c.ad), .v (.int .i64 c.ins)] 94, .ext false (.s false 2 c.looks.length (cL c.looks)), .ext false (.s false 7 c.nodes.length (cN c.nodes)), .ext false (.s false 1 c.gates.length (cI c.gates)), .ext false (.s false 2 c.eqs.length (cK c.eqs))]⟩
  | 0, k, hd, e1, e2 => by
    have h1 := hc.l.2
    refine FOk.rnd (run_sound hm 60 ((rk3 c i k M2 0 _ _).mpr ⟨?_⟩))
    refine And.intro (fun _ => hi) ?_
    rw [cond_dec, if_neg (by omega), wrap_inc i (by omega)]
    rw [show k = (gL c.looks i).1.length by omega, List.take_length] at e1
    rw [show k = (gL c.looks i).2.length by omega, List.take_length] at e2
    exact next (by rw [lookB, e1, e2, decide_eq_true hA]; rfl)
  | d + 1, k, hd, e1, e2 => by
    have hk : k < (gL c.looks i).1.length := by omega
    have hk2 : k < (gL c.looks i).2.length := by omega
    refine FOk.rnd (run_sound hm 60 ((rk3 c i k M2 (d + 1) _ _).mpr ⟨?_⟩))
    refine And.intro (fun _ => hi) ?_
    rw [cond_dec, if_pos (by omega), wrap_inc k (by omega)]
    refine And.intro (fun _ => by omega) (And.intro (fun _ => by omega) (And.intro (fun _ => by omega) (And.intro (fun _ => by omega) (lC_mk c hc (cond_intro (fun h => no ?_) (fun h => And.intro (fun _ => by omega) (And.intro (fun _ => by omega) (And.intro (fun _ => by omega) (And.intro (fun _ => by omega) (lC_mk c hc (cond_intro (fun h2 => no ?_) (fun h2 => ?_))))))))))))
    · rw [lookB, any_at (gI_mem hk) h]; simp
    · rw [lookB, any_at (gI_mem hk2) h2]; simp
    · exact rk_lin c hc i M2 hi hA Q no next d (k + 1) (by omega) (by rw [any_takeI hk, e1, h]; rfl) (by rw [any_takeI hk2, e2, h2]; rfl)
theorem rk_looks (c : Cir) (hc : c.ok) (h0 : chkN c.nodes c.fx c.ad c.ins = 0) (hct : cntB c = true) (hg : c.gates.any (fun n => !placeB c n) = false) (Q : SV → List HO → Prop) (yes : goodB c = true → Q (.v (.int .i64 0)) []) (no : goodB c = false → Q (.v (.int .i64 120)) []) : ∀ (d k : Nat), k + d = c.looks.length → (c.looks.take k).any (fun x => !lookB c x) = false →
    FOk Try.prog Try.f26 Q (.rnd [0,0,1,0,1,1,1,1,1,1,1] (d + 1) :: [.blk 4, .at [1,1,1,1,1,1,1,1]]) ⟨[(7, .v (.int .i64 (k : Int))), (1, .p 0 0), (4, .p 1 0)], [.cells [.v (.int .i64 c.fx), .v (.int .i64 c.ad), .v (.int .i64 c.ins), .x 2 [], .x 3 [], .x 4 [], .x 5 []] 27, .cells [.v (.int .i64 c.fx), .v (.int .i64 c.ad), .v (.int .i64 c.ins)] 94, .ext false (.s false 7 c.nodes.length (cN c.nodes)), .ext false (.s false 1 c.gates.length (cI c.gates)), .ext false (.s false 2 c.looks.length (cL c.looks)), .ext false (.s false 2 c.eqs.length (cK c.eqs))]⟩
  | 0, k, hd, he => by
    refine FOk.rnd (run_sound hm 60 ((rk2 c k 0 _ _).mpr ⟨?_⟩))
    rw [cond_dec, if_neg (by omega)]
    rw [show k = c.looks.length by omega, List.take_length] at he
    exact FOk.loop (c.eqs.length + 1) (by kernel_rfl) (rk_eqs c hc h0 hct hg he Q yes no c.eqs.length 0 (by omega) rfl)
  | d + 1, k, hd, he => by
    have hk : k < c.looks.length := by omega
    have bad : lookB c (gL c.looks k) = false → Q (.v (.int .i64 120)) [] := fun h => no (by
      have : c.looks.any (fun x => !lookB c x) = true := any_at (gL_mem hk) (by rw [h]; rfl)
      rw [goodB, this]; simp)
    refine FOk.rnd (run_sound hm 60 ((rk2 c k (d + 1) _ _).mpr ⟨?_⟩))
    rw [cond_dec, if_pos (by omega)]
    simp only [cond_dec, cond_not, cond_beq]
    refine And.intro (fun _ => by omega) (And.intro (fun _ => by omega) (And.intro (fun _ => by omega) (And.intro (fun _ => by omega) (ite_intro (fun h1 => bad ?_) (fun h1 => And.intro (fun _ => by omega) (ite_intro (fun h2 => bad ?_) (fun h2 => And.intro (fun _ => by omega) (And.intro (fun _ => by omega) (ite_intro (fun h3 => ?_) (fun h3 => bad ?_))))))))))
    · rw [lookB, decide_eq_false (by omega)]; rfl
    · rw [lookB, decide_eq_false (by omega)]; rfl
    · exact FOk.loop ((gL c.looks k).1.length + 1) (by kernel_rfl) (rk_lin c hc k (d + 1) hk ⟨by omega, by omega, by omega⟩ Q bad (fun h => rk_looks c hc h0 hct hg Q yes no d (k + 1) (by omega) (by rw [any_takeL hk, he, h]; rfl)) (gL c.looks k).1.length 0 (by omega) rfl rfl)
    · rw [lookB, decide_eq_false (by omega)]; rfl
theorem rk_gates (c : Cir) (hc : c.ok) (h0 : chkN c.nodes c.fx c.ad c.ins = 0) (hct : cntB c = true) (Q : SV → List HO → Prop) (yes : goodB c = true → Q (.v (.int .i64 0)) []) (no : goodB c = false → Q (.v (.int .i64 120)) []) : ∀ (d k : Nat), k + d = c.gates.length → (c.gates.take k).any (fun n => !placeB c n) = false →
    FOk Try.prog Try.f26 Q (.rnd [0,0,1,0,1,1,1,1,1,1] (d + 1) :: [.blk 2, .at [1,1,1,1,1,1,1]]) ⟨[(6, .v (.int .i64 (k : Int))), (1, .p 0 0), (4, .p 1 0)], [.cells [.v (.int .i64 c.fx), .v (.int .i64 c.ad), .v (.int .i64 c.ins), .x 2 [], .x 3 [], .x 4 [], .x 5 []] 27, .cells [.v (.int .i64 c.fx), .v (.int .i64 c.ad), .v (.int .i64 c.ins)] 94, .ext false (.s false 7 c.nodes.length (cN c.nodes)), .ext false (.s false 1 c.gates.length (cI c.gates)), .ext false (.s false 2 c.looks.length (cL c.looks)), .ext false (.s false 2 c.eqs.length (cK c.eqs))]⟩
  | 0, k, hd, he => by
    refine FOk.rnd (run_sound hm 60 ((rk1 c k 0 _ _).mpr ⟨?_⟩))
    rw [cond_dec, if_neg (by omega)]
    rw [show k = c.gates.length by omega, List.take_length] at he
    exact FOk.loop (c.looks.length + 1) (by kernel_rfl) (rk_looks c hc h0 hct he Q yes no c.looks.length 0 (by omega) rfl)
  | d + 1, k, hd, he => by
    have hk : k < c.gates.length := by omega
    have h1 := hc.g.2
    have bad : placeB c (gI c.gates k) = false → Q (.v (.int .i64 120)) [] := fun h => no (by
      have : c.gates.any (fun n => !placeB c n) = true := any_at (gI_mem hk) (by rw [h]; rfl)
      rw [goodB, this]; simp)
    refine FOk.rnd (run_sound hm 60 ((rk1 c k (d + 1) _ _).mpr ⟨?_⟩))
    rw [cond_dec, if_pos (by omega), wrap_inc k (by omega)]
    simp only [cond_dec, cond_not]
    refine And.intro (fun _ => by omega) (And.intro (fun _ => by omega) (ite_intro (fun h1 => ite_intro (fun h2 => ?_) (fun h2 => bad (decide_eq_false (by omega)))) (fun h1 => bad (decide_eq_false (by omega)))))
    exact rk_gates c hc h0 hct Q yes no d (k + 1) (by omega) (by rw [any_takeI hk, he, placeB, decide_eq_true ⟨h1, h2⟩]; rfl)
theorem bRk : Try.f26.body.isSome = true := by kernel_rfl
theorem nRk (c : Cir) : Nat.ble [(.agg [.v (.int .i64 c.fx), .v (.int .i64 c.ad), .v (.int .i64 c.ins), .x 0 [], .x 1 [], .x 2 [], .x 3 []] : SV)].length Try.f26.ntmps = true := by kernel_rfl
theorem rk_ok (c : Cir) (hc : c.ok) (Q : SV → List HO → Prop) (hq : Q (.v (.int .i64 (chkC c))) []) : FnOk Try.prog 26 [.agg [.v (.int .i64 c.fx), .v (.int .i64 c.ad), .v (.int .i64 c.ins), .x 0 [], .x 1 [], .x 2 [], .x 3 []]] [.ext false (.s false 7 c.nodes.length (cN c.nodes)), .ext false (.s false 1 c.gates.length (cI c.gates)), .ext false (.s false 2 c.looks.length (cL c.looks)), .ext false (.s false 2 c.eqs.length (cK c.eqs))] Q := by
  refine fn_of_ok Try.func26 bRk ?_ ?_
  · exact nRk c
  have h1 := hc.n.2
  refine run_sound hm 60 ((rkS c _ _).mpr ⟨?_⟩)
  refine ⟨c.nodes, rfl, IsC.refl _ _ _, by omega, ?_⟩
  simp only [cond_dec, cond_not, cond_beq]
  refine ite_intro (fun h0 => ?_) (fun h0 => ?_)
  · have no : goodB c = false → Q (.v (.int .i64 120)) [] := fun h => by
      rw [(chkC_bad h0 h).1] at hq
      exact hq
    have yes : goodB c = true → Q (.v (.int .i64 0)) [] := fun h => by
      rw [(chkC_good h0 h).1] at hq
      exact hq
    have bad : ¬ cntOk c → Q (.v (.int .i64 120)) [] := fun h => no (by rw [goodB, cntB, decide_eq_false h]; rfl)
    have go : cntOk c → FOk Try.prog Try.f26 Q (.rnd [0,0,1,0,1,1,1,1,1,1] (c.gates.length + 1) :: [.blk 2, .at [1,1,1,1,1,1,1]]) ⟨[(6, .v (.int .i64 ((0 : Nat) : Int))), (1, .p 0 0), (4, .p 1 0)], [.cells [.v (.int .i64 c.fx), .v (.int .i64 c.ad), .v (.int .i64 c.ins), .x 2 [], .x 3 [], .x 4 [], .x 5 []] 27, .cells [.v (.int .i64 c.fx), .v (.int .i64 c.ad), .v (.int .i64 c.ins)] 94, .ext false (.s false 7 c.nodes.length (cN c.nodes)), .ext false (.s false 1 c.gates.length (cI c.gates)), .ext false (.s false 2 c.looks.length (cL c.looks)), .ext false (.s false 2 c.eqs.length (cK c.eqs))]⟩ := fun h =>
      rk_gates c hc h0 (decide_eq_true h) Q yes no c.gates.length 0 (by omega) rfl
    unfold cntOk at bad go
    clear hq yes no
    repeat' (first | refine And.intro (fun _ => by omega) ?_ | refine ite_intro (fun _ => ?_) (fun _ => ?_))
    all_goals first
      | (refine bad (fun h => ?_); omega)
      | exact FOk.loop (c.gates.length + 1) (by kernel_rfl) (go (by omega))
  · rw [chkC, if_neg h0] at hq
    exact hq
noncomputable def gRk : List SV → List HO → Option ((SV → List HO → Prop) → Prop)
  | [.agg [.v (.int .i64 fx), .v (.int .i64 ad), .v (.int .i64 ins), .x 0 [], .x 1 [], .x 2 [], .x 3 []]], [.ext false (.s false 7 n0 c0), .ext false (.s false 1 n1 c1), .ext false (.s false 2 n2 c2), .ext false (.s false 2 n3 c3)] =>
    some fun Q => lC fx ad ins n0 n1 n2 n3 c0 c1 c2 c3 fun c => Q (.v (.int .i64 (chkC c))) []
  | _, _ => none
theorem gRk_ok (args : List SV) (h : List HO) (tr : (SV → List HO → Prop) → Prop) (Q : SV → List HO → Prop) (hc : gRk args h = some tr) (ht : tr Q) : FnOk Try.prog 26 args h Q := by
  unfold gRk at hc
  split at hc
  · rename_i fx ad ins n0 c0 n1 c1 n2 c2 n3 c3
    simp only [Option.some.injEq] at hc
    subst hc
    obtain ⟨c, rfl, rfl, rfl, ⟨rfl, e0⟩, ⟨rfl, e1⟩, ⟨rfl, e2⟩, ⟨rfl, e3⟩, hk, hq⟩ := ht.h
    exact FnOk.ac (rk_ok c hk Q hq) ⟨⟨rfl, rfl, rfl, rfl, e0⟩, ⟨rfl, rfl, rfl, rfl, e1⟩, ⟨rfl, rfl, rfl, rfl, e2⟩, ⟨rfl, rfl, rfl, rfl, e3⟩, trivial⟩
  · cases hc
noncomputable def K56 : Con Try.prog := K55.add 26 gRk gRk_ok
end Go.Proofs.Ytpghmnpbfaichaa
/- Degree and Rows, by the document; great. -/
namespace Go.Pl
open Go.Sx
def greatB (c : Cir) : Bool := decide (200 < c.nodes.length ∨ 100 < c.gates.length ∨ 20 < c.looks.length ∨ 100 < c.eqs.length)
theorem chkC_zero {c : Cir} (h : chkC c = 0) : chkN c.nodes c.fx c.ad c.ins = 0 ∧ goodB c = true := by
  rw [chkC] at h
  split at h
  · rename_i h0
    refine ⟨h0, ?_⟩
    cases hg : goodB c with
    | true => rfl
    | false => rw [hg] at h; cases h
  · rename_i h0; exact absurd h h0
theorem goodB_all {c : Cir} (h : goodB c = true) : cntB c = true ∧ c.gates.any (fun n => !placeB c n) = false ∧ c.looks.any (fun x => !lookB c x) = false ∧ eqF c [] c.eqs = true ∧ degP c (degrees c.nodes) ≤ 8 := by
  simp only [goodB, Bool.and_eq_true, Bool.not_eq_true', decide_eq_true_eq] at h
  exact ⟨h.1.1.1.1, h.1.1.1.2, h.1.1.2, h.1.2, h.2⟩
end Go.Pl
namespace Go.Proofs.Ytpghmnpbfaichaa
open Go.Sx Go.Pl
set_option linter.unusedVariables false
set_option maxRecDepth 100000
theorem rrS (c : Cir) (k x : Int) (K : List It → St → Prop) (R : SV → List HO → Prop) : W (xwp Try.prog X K56 [(48, [])] 60 (fxOf Try.f17 [] [⟨[0,1,0,1,1,1,1,1], [11,10,9,8,1], []⟩]) [] [.at []] ⟨argsS 0 [.agg [.v (.int .i64 c.fx), .v (.int .i64 c.ad), .v (.int .i64 c.ins), .x 0 [], .x 1 [], .x 2 [], .x 3 []], .v (.int .i64 k), .v (.int .i64 x)], [.ext false (.s false 7 c.nodes.length (cN c.nodes)), .ext false (.s false 1 c.gates.length (cI c.gates)), .ext false (.s false 2 c.looks.length (cL c.looks)), .ext false (.s false 2 c.eqs.length (cK c.eqs))]⟩ K R) = W (lC c.1 c.2 c.3 (List.length c.4) (List.length c.5) (List.length c.6) (List.length c.7) (cN c.4) (cI c.5) (cL c.6) (cK c.7) fun (c_1 : Cir) => bif !chkC c_1 == (0 : Int) then R (SV.tup [SV.v (vi64 (0 : Int)), SV.v (vi64 (0 : Int))]) [] else bif decide ((0 : Int) ≤ x) then bif !decide (x < (↑(List.length c.4) : Int)) then R (SV.tup [SV.v (vi64 (0 : Int)), SV.v (vi64 (0 : Int))]) [] else lC c.1 c.2 c.3 (List.length c.4) (List.length c.5) (List.length c.6) (List.length c.7) (cN c.4) (cI c.5) (cL c.6) (cK c.7) fun (c : Cir) => K [It.at [0, 1, 0, 1, 1, 1, 1, 1], It.blk 0, It.at [1, 1, 1, 1, 1, 1]] (St.mk [(11, SV.v (vi64 (0 : Int))), (10, SV.v (vi64 (usN k))), (9, SV.v (vi64 (0 : Int))), (8, SV.o 0), (1, SV.v (vi64 k))] [HO.rowc 63 3 (List.length (coneQ c x)) (Ct.fn (cQ (coneQ c x)))]) else R (SV.tup [SV.v (vi64 (0 : Int)), SV.v (vi64 (0 : Int))]) []) := by kernel_rfl
theorem rrR (l : List (Int × Int × Int)) (f t kk : Int) (k M : Nat) (K : List It → St → Prop) (R : SV → List HO → Prop) : W (xwp Try.prog X K56 [] 60 (fxOf Try.f17 [] [⟨[0,1,0,1,1,1,1,1], [11,10,9,8,1], []⟩]) [] (.at [0,0,1,0,1,1,1,1,1] :: .rnd [0,0,1,0,1,1,1,1,1] M :: [.blk 0, .at [1,1,1,1,1,1]]) ⟨[(11, .v (.int .i64 (k : Int))), (10, .v (.int .i64 t)), (9, .v (.int .i64 f)), (8, .o 0), (1, .v (.int .i64 kk))], [.rowc 63 3 l.length (.fn (cQ l))]⟩ K R) = W (bif decide ((↑k : Int) < (↑(List.length l) : Int)) then (∀ (M : Mem), (0 : Int) ≤ (↑k : Int) ∧ (↑k : Int) < (↑(List.length l) : Int)) ∧ (∀ (M : Mem), k < List.length l) ∧ (∀ (M : Mem), k < List.length l) ∧ bif decide (f < IntKind.wrap IntKind.i64 ((0 : Int) - (gQ l k).2.2)) then (∀ (M : Mem), (0 : Int) ≤ (↑k : Int) ∧ (↑k : Int) < (↑(List.length l) : Int)) ∧ (∀ (M : Mem), k < List.length l) ∧ (∀ (M : Mem), k < List.length l) ∧ (∀ (M : Mem), (0 : Int) ≤ (↑k : Int) ∧ (↑k : Int) < (↑(List.length l) : Int)) ∧ (∀ (M : Mem), k < List.length l) ∧ (∀ (M : Mem), k < List.length l) ∧ bif decide (IntKind.wrap IntKind.i64 (usN kk - (gQ l k).2.2) < t) then (∀ (M : Mem), (0 : Int) ≤ (↑k : Int) ∧ (↑k : Int) < (↑(List.length l) : Int)) ∧ (∀ (M : Mem), k < List.length l) ∧ (∀ (M : Mem), k < List.length l) ∧ K [It.rnd [0, 0, 1, 0, 1, 1, 1, 1, 1] M, It.blk 0, It.at [1, 1, 1, 1, 1, 1]] (St.mk [(11, SV.v (vi64 (IntKind.wrap IntKind.i64 ((↑k : Int) + (1 : Int))))), (10, SV.v (vi64 (IntKind.wrap IntKind.i64 (usN kk - (gQ l k).2.2)))), (9, SV.v (vi64 (IntKind.wrap IntKind.i64 ((0 : Int) - (gQ l k).2.2)))), (8, SV.o 0), (1, SV.v (vi64 kk))] [HO.rowc 63 3 (List.length l) (Ct.fn (cQ l))]) else K [It.rnd [0, 0, 1, 0, 1, 1, 1, 1, 1] M, It.blk 0, It.at [1, 1, 1, 1, 1, 1]] (St.mk [(11, SV.v (vi64 (IntKind.wrap IntKind.i64 ((↑k : Int) + (1 : Int))))), (10, SV.v (vi64 t)), (9, SV.v (vi64 (IntKind.wrap IntKind.i64 ((0 : Int) - (gQ l k).2.2)))), (8, SV.o 0), (1, SV.v (vi64 kk))] [HO.rowc 63 3 (List.length l) (Ct.fn (cQ l))]) else (∀ (M : Mem), (0 : Int) ≤ (↑k : Int) ∧ (↑k : Int) < (↑(List.length l) : Int)) ∧ (∀ (M : Mem), k < List.length l) ∧ (∀ (M : Mem), k < List.length l) ∧ bif decide (IntKind.wrap IntKind.i64 (usN kk - (gQ l k).2.2) < t) then (∀ (M : Mem), (0 : Int) ≤ (↑k : Int) ∧ (↑k : Int) < (↑(List.length l) : Int)) ∧ (∀ (M : Mem), k < List.length l) ∧ (∀ (M : Mem), k < List.length l) ∧ K [It.rnd [0, 0, 1, 0, 1, 1, 1, 1, 1] M, It.blk 0, It.at [1, 1, 1, 1, 1, 1]] (St.mk [(11, SV.v (vi64 (IntKind.wrap IntKind.i64 ((↑k : Int) + (1 : Int))))), (10, SV.v (vi64 (IntKind.wrap IntKind.i64 (usN kk - (gQ l k).2.2)))), (9, SV.v (vi64 f)), (8, SV.o 0), (1, SV.v (vi64 kk))] [HO.rowc 63 3 (List.length l) (Ct.fn (cQ l))]) else K [It.rnd [0, 0, 1, 0, 1, 1, 1, 1, 1] M, It.blk 0, It.at [1, 1, 1, 1, 1, 1]] (St.mk [(11, SV.v (vi64 (IntKind.wrap IntKind.i64 ((↑k : Int) + (1 : Int))))), (10, SV.v (vi64 t)), (9, SV.v (vi64 f)), (8, SV.o 0), (1, SV.v (vi64 kk))] [HO.rowc 63 3 (List.length l) (Ct.fn (cQ l))]) else bif decide (t ≤ f) then R (SV.tup [SV.v (vi64 (0 : Int)), SV.v (vi64 (0 : Int))]) [] else R (SV.tup [SV.v (vi64 f), SV.v (vi64 t)]) []) := by kernel_rfl
theorem rdvS (c : Cir) (K : List It → St → Prop) (R : SV → List HO → Prop) : W (xwp Try.prog X K56 [] 60 (fxOf Try.f25 [] []) [] [.at []] ⟨argsS 0 [.agg [.v (.int .i64 c.fx), .v (.int .i64 c.ad), .v (.int .i64 c.ins), .x 0 [], .x 1 [], .x 2 [], .x 3 []]], [.ext false (.s false 7 c.nodes.length (cN c.nodes)), .ext false (.s false 1 c.gates.length (cI c.gates)), .ext false (.s false 2 c.looks.length (cL c.looks)), .ext false (.s false 2 c.eqs.length (cK c.eqs))]⟩ K R) = W (lC c.1 c.2 c.3 (List.length c.4) (List.length c.5) (List.length c.6) (List.length c.7) (cN c.4) (cI c.5) (cL c.6) (cK c.7) fun (c_1 : Cir) => bif !chkC c_1 == (0 : Int) then R (SV.tup [SV.v (vi64 (0 : Int)), SV.v (vi64 (chkC c_1))]) [] else lC c.1 c.2 c.3 (List.length c.4) (List.length c.5) (List.length c.6) (List.length c.7) (cN c.4) (cI c.5) (cL c.6) (cK c.7) fun (c : Cir) => (degOk c (degrees c.4) ∧ ∀ (x : List Int × List Int), x ∈ c.6 → List.length x.2 = List.length x.1) ∧ R (SV.tup [SV.v (vi64 (degP c (degrees c.4))), SV.v (vi64 (0 : Int))]) []) := by kernel_rfl
theorem grtS (c : Cir) (K : List It → St → Prop) (R : SV → List HO → Prop) : W (xwp Try.prog X K56 [] 60 (fxOf Try.f14 [] []) [] [.at []] ⟨argsS 0 [.agg [.v (.int .i64 c.fx), .v (.int .i64 c.ad), .v (.int .i64 c.ins), .x 0 [], .x 1 [], .x 2 [], .x 3 []]], [.ext false (.s false 7 c.nodes.length (cN c.nodes)), .ext false (.s false 1 c.gates.length (cI c.gates)), .ext false (.s false 2 c.looks.length (cL c.looks)), .ext false (.s false 2 c.eqs.length (cK c.eqs))]⟩ K R) = W (bif decide ((200 : Int) < (↑(List.length c.4) : Int)) then R (SV.v (Value.bool true)) [] else bif decide ((100 : Int) < (↑(List.length c.5) : Int)) then R (SV.v (Value.bool true)) [] else bif decide ((20 : Int) < (↑(List.length c.6) : Int)) then R (SV.v (Value.bool true)) [] else R (SV.v (Value.bool (decide ((100 : Int) < (↑(List.length c.7) : Int))))) []) := by kernel_rfl
theorem rr_loop (l : List (Int × Int × Int)) (hl : l.length ≤ 4398046511104) (kk : Int) (Q : SV → List HO → Prop) (hq : Q (.tup [.v (.int .i64 (rowsQ l kk).1), .v (.int .i64 (rowsQ l kk).2)]) []) : ∀ (d k : Nat) (f t : Int), k + d = l.length → f = (l.take k).foldl frQ 0 → t = (l.take k).foldl (toQ kk) (usN kk) →
    FOk Try.prog Try.f17 Q (.rnd [0,0,1,0,1,1,1,1,1] (d + 1) :: [.blk 0, .at [1,1,1,1,1,1]]) ⟨[(11, .v (.int .i64 (k : Int))), (10, .v (.int .i64 t)), (9, .v (.int .i64 f)), (8, .o 0), (1, .v (.int .i64 kk))], [.rowc 63 3 l.length (.fn (cQ l))]⟩
  | 0, k, f, t, hd, hf, ht => by
    refine FOk.rnd (run_sound hm 60 ((rrR l f t kk k 0 _ _).mpr ⟨?_⟩))
    rw [cond_dec, if_neg (by omega), cond_dec]
    rw [show k = l.length by omega, List.take_length] at hf ht
    rw [hf, ht]
    rw [rowsQ] at hq
    refine ite_intro (fun h => ?_) (fun h => ?_)
    · rw [if_pos h] at hq; exact hq
    · rw [if_neg h] at hq; exact hq
  | d + 1, k, f, t, hd, hf, ht => by
    have hk : k < l.length := by omega
    have rec' := rr_loop l hl kk Q hq d (k + 1) (frQ f (gQ l k)) (toQ kk t (gQ l k)) (by omega) (by rw [foldl_takeQ _ _ hk, ← hf]) (by rw [foldl_takeQ _ _ hk, ← ht])
    refine FOk.rnd (run_sound hm 60 ((rrR l f t kk k (d + 1) _ _).mpr ⟨?_⟩))
    rw [cond_dec, if_pos (by omega), wrap_inc _ (by omega)]
    simp only [cond_dec, forall_const]
    repeat' (first | refine And.intro (by omega) ?_ | refine ite_intro (fun h => ?_) (fun h => ?_))
    all_goals first
      | (rw [frQ, if_pos (by assumption), toQ, if_pos (by assumption)] at rec'; exact rec')
      | (rw [frQ, if_pos (by assumption), toQ, if_neg (by assumption)] at rec'; exact rec')
      | (rw [frQ, if_neg (by assumption), toQ, if_pos (by assumption)] at rec'; exact rec')
      | (rw [frQ, if_neg (by assumption), toQ, if_neg (by assumption)] at rec'; exact rec')
theorem bRr : Try.f17.body.isSome = true := by kernel_rfl
theorem nRr (c : Cir) (k x : Int) : Nat.ble [(.agg [.v (.int .i64 c.fx), .v (.int .i64 c.ad), .v (.int .i64 c.ins), .x 0 [], .x 1 [], .x 2 [], .x 3 []] : SV), .v (.int .i64 k), .v (.int .i64 x)].length Try.f17.ntmps = true := by kernel_rfl
theorem rr_ok (c : Cir) (hc : c.ok) (k x : Int) (Q : SV → List HO → Prop) (hq : Q (.tup [.v (.int .i64 (rowsV c k x).1), .v (.int .i64 (rowsV c k x).2)]) []) : FnOk Try.prog 17 [.agg [.v (.int .i64 c.fx), .v (.int .i64 c.ad), .v (.int .i64 c.ins), .x 0 [], .x 1 [], .x 2 [], .x 3 []], .v (.int .i64 k), .v (.int .i64 x)] [.ext false (.s false 7 c.nodes.length (cN c.nodes)), .ext false (.s false 1 c.gates.length (cI c.gates)), .ext false (.s false 2 c.looks.length (cL c.looks)), .ext false (.s false 2 c.eqs.length (cK c.eqs))] Q := by
  refine fn_of_ok Try.func17 bRr ?_ ?_
  · exact nRr c k x
  have h1 := hc.n.2
  have h2 := coneQ_len c x
  refine run_sound hm 60 ((rrS c k x _ _).mpr ⟨?_⟩)
  have no : ¬ (chkC c = 0 ∧ 0 ≤ x ∧ x < (c.nodes.length : Int)) → Q (.tup [.v (.int .i64 0), .v (.int .i64 0)]) [] := fun h => by
    rw [rowsV, if_neg h] at hq
    exact hq
  simp only [cond_dec, cond_not, cond_beq]
  refine lC_mk c hc (ite_intro (fun a1 => ite_intro (fun a2 => ite_intro (fun a3 => lC_mk c hc ?_) (fun a3 => no (by omega))) (fun a2 => no (by omega))) (fun a1 => no (fun h => a1 h.1)))
  rw [rowsV, if_pos (by omega)] at hq
  exact FOk.loop ((coneQ c x).length + 1) (by kernel_rfl) (rr_loop (coneQ c x) (by omega) k Q hq (coneQ c x).length 0 _ _ (by omega) rfl rfl)
noncomputable def gRr : List SV → List HO → Option ((SV → List HO → Prop) → Prop)
  | [.agg [.v (.int .i64 fx), .v (.int .i64 ad), .v (.int .i64 ins), .x 0 [], .x 1 [], .x 2 [], .x 3 []], .v (.int .i64 k), .v (.int .i64 x)], [.ext false (.s false 7 n0 c0), .ext false (.s false 1 n1 c1), .ext false (.s false 2 n2 c2), .ext false (.s false 2 n3 c3)] =>
    some fun Q => lC fx ad ins n0 n1 n2 n3 c0 c1 c2 c3 fun c => Q (.tup [.v (.int .i64 (rowsV c k x).1), .v (.int .i64 (rowsV c k x).2)]) []
  | _, _ => none
theorem gRr_ok (args : List SV) (h : List HO) (tr : (SV → List HO → Prop) → Prop) (Q : SV → List HO → Prop) (hc : gRr args h = some tr) (ht : tr Q) : FnOk Try.prog 17 args h Q := by
  unfold gRr at hc
  split at hc
  · simp only [Option.some.injEq] at hc
    subst hc
    obtain ⟨c, rfl, rfl, rfl, ⟨rfl, e0⟩, ⟨rfl, e1⟩, ⟨rfl, e2⟩, ⟨rfl, e3⟩, hk, hq⟩ := ht.h
    exact FnOk.ac (rr_ok c hk _ _ Q hq) ⟨⟨rfl, rfl, rfl, rfl, e0⟩, ⟨rfl, rfl, rfl, rfl, e1⟩, ⟨rfl, rfl, rfl, rfl, e2⟩, ⟨rfl, rfl, rfl, rfl, e3⟩, trivial⟩
  · cases hc
theorem bRdv : Try.f25.body.isSome = true := by kernel_rfl
theorem nRdv (c : Cir) : Nat.ble [(.agg [.v (.int .i64 c.fx), .v (.int .i64 c.ad), .v (.int .i64 c.ins), .x 0 [], .x 1 [], .x 2 [], .x 3 []] : SV)].length Try.f25.ntmps = true := by kernel_rfl
theorem rdv_ok (c : Cir) (hc : c.ok) (Q : SV → List HO → Prop) (hq : Q (.tup [.v (.int .i64 (degV c)), .v (.int .i64 (chkC c))]) []) : FnOk Try.prog 25 [.agg [.v (.int .i64 c.fx), .v (.int .i64 c.ad), .v (.int .i64 c.ins), .x 0 [], .x 1 [], .x 2 [], .x 3 []]] [.ext false (.s false 7 c.nodes.length (cN c.nodes)), .ext false (.s false 1 c.gates.length (cI c.gates)), .ext false (.s false 2 c.looks.length (cL c.looks)), .ext false (.s false 2 c.eqs.length (cK c.eqs))] Q := by
  refine fn_of_ok Try.func25 bRdv ?_ ?_
  · exact nRdv c
  refine run_sound hm 60 ((rdvS c _ _).mpr ⟨?_⟩)
  simp only [cond_not, cond_beq]
  refine lC_mk c hc (ite_intro (fun a1 => ?_) (fun a1 => ?_))
  · obtain ⟨h0, hg⟩ := chkC_zero a1
    obtain ⟨_, g1, g2, _, _⟩ := goodB_all hg
    rw [degV, if_pos a1, a1] at hq
    exact lC_mk c hc ⟨⟨degOk_of h0 g1 g2, fun x hx => (look_places (any_not g2 x hx)).2.2.2.2⟩, hq⟩
  · rw [degV, if_neg a1] at hq
    exact hq
noncomputable def gRdv : List SV → List HO → Option ((SV → List HO → Prop) → Prop)
  | [.agg [.v (.int .i64 fx), .v (.int .i64 ad), .v (.int .i64 ins), .x 0 [], .x 1 [], .x 2 [], .x 3 []]], [.ext false (.s false 7 n0 c0), .ext false (.s false 1 n1 c1), .ext false (.s false 2 n2 c2), .ext false (.s false 2 n3 c3)] =>
    some fun Q => lC fx ad ins n0 n1 n2 n3 c0 c1 c2 c3 fun c => Q (.tup [.v (.int .i64 (degV c)), .v (.int .i64 (chkC c))]) []
  | _, _ => none
theorem gRdv_ok (args : List SV) (h : List HO) (tr : (SV → List HO → Prop) → Prop) (Q : SV → List HO → Prop) (hc : gRdv args h = some tr) (ht : tr Q) : FnOk Try.prog 25 args h Q := by
  unfold gRdv at hc
  split at hc
  · simp only [Option.some.injEq] at hc
    subst hc
    obtain ⟨c, rfl, rfl, rfl, ⟨rfl, e0⟩, ⟨rfl, e1⟩, ⟨rfl, e2⟩, ⟨rfl, e3⟩, hk, hq⟩ := ht.h
    exact FnOk.ac (rdv_ok c hk Q hq) ⟨⟨rfl, rfl, rfl, rfl, e0⟩, ⟨rfl, rfl, rfl, rfl, e1⟩, ⟨rfl, rfl, rfl, rfl, e2⟩, ⟨rfl, rfl, rfl, rfl, e3⟩, trivial⟩
  · cases hc
theorem bGrt : Try.f14.body.isSome = true := by kernel_rfl
theorem nGrt (c : Cir) : Nat.ble [(.agg [.v (.int .i64 c.fx), .v (.int .i64 c.ad), .v (.int .i64 c.ins), .x 0 [], .x 1 [], .x 2 [], .x 3 []] : SV)].length Try.f14.ntmps = true := by kernel_rfl
theorem grt_ok (c : Cir) (hc : c.ok) (Q : SV → List HO → Prop) (hq : Q (.v (.bool (greatB c))) []) : FnOk Try.prog 14 [.agg [.v (.int .i64 c.fx), .v (.int .i64 c.ad), .v (.int .i64 c.ins), .x 0 [], .x 1 [], .x 2 [], .x 3 []]] [.ext false (.s false 7 c.nodes.length (cN c.nodes)), .ext false (.s false 1 c.gates.length (cI c.gates)), .ext false (.s false 2 c.looks.length (cL c.looks)), .ext false (.s false 2 c.eqs.length (cK c.eqs))] Q := by
  refine fn_of_ok Try.func14 bGrt ?_ ?_
  · exact nGrt c
  refine run_sound hm 60 ((grtS c _ _).mpr ⟨?_⟩)
  simp only [cond_dec]
  refine ite_intro (fun h => ?_) (fun h => ite_intro (fun h2 => ?_) (fun h2 => ite_intro (fun h3 => ?_) (fun h3 => ?_)))
  · rw [greatB, decide_eq_true (by omega)] at hq; exact hq
  · rw [greatB, decide_eq_true (by omega)] at hq; exact hq
  · rw [greatB, decide_eq_true (by omega)] at hq; exact hq
  · have e : decide ((100 : Int) < (c.eqs.length : Int)) = greatB c := decide_eq_decide.2 (by omega)
    rw [e]; exact hq
noncomputable def gGrt : List SV → List HO → Option ((SV → List HO → Prop) → Prop)
  | [.agg [.v (.int .i64 fx), .v (.int .i64 ad), .v (.int .i64 ins), .x 0 [], .x 1 [], .x 2 [], .x 3 []]], [.ext false (.s false 7 n0 c0), .ext false (.s false 1 n1 c1), .ext false (.s false 2 n2 c2), .ext false (.s false 2 n3 c3)] =>
    some fun Q => lC fx ad ins n0 n1 n2 n3 c0 c1 c2 c3 fun c => Q (.v (.bool (greatB c))) []
  | _, _ => none
theorem gGrt_ok (args : List SV) (h : List HO) (tr : (SV → List HO → Prop) → Prop) (Q : SV → List HO → Prop) (hc : gGrt args h = some tr) (ht : tr Q) : FnOk Try.prog 14 args h Q := by
  unfold gGrt at hc
  split at hc
  · simp only [Option.some.injEq] at hc
    subst hc
    obtain ⟨c, rfl, rfl, rfl, ⟨rfl, e0⟩, ⟨rfl, e1⟩, ⟨rfl, e2⟩, ⟨rfl, e3⟩, hk, hq⟩ := ht.h
    exact FnOk.ac (grt_ok c hk Q hq) ⟨⟨rfl, rfl, rfl, rfl, e0⟩, ⟨rfl, rfl, rfl, rfl, e1⟩, ⟨rfl, rfl, rfl, rfl, e2⟩, ⟨rfl, rfl, rfl, rfl, e3⟩, trivial⟩
  · cases hc
noncomputable def K57 : Con Try.prog := ((K56.add 17 gRr gRr_ok).add 25 gRdv gRdv_ok).add 14 gGrt gGrt_ok
end Go.Proofs.Ytpghmnpbfaichaa
/- An argument that is a nil slice, told as an empty frozen memory. -/
namespace Go.Sx
open Go.RowKit
theorem FnOk.nilX {P : Program} {f : FuncId} {args args' : List SV} {h : List HO} {Q : SV → List HO → Prop} (sz : Nat) (c : Nat → Nat → Cell) (hw : wsL (h.length + 1) args')
    (hd : ∀ e e0 : Env, e.val h.length [] = .slice none 0 0 → agree h.length e0 e → denL e args' = denL e0 args)
    (k : FnOk P f args' (h ++ [.ext false (.s false sz 0 c)]) Q) : FnOk P f args h Q := by
  intro F hF w0 e hm S hws
  have S2 := S.newExt hF false (.s false sz 0 c) (fun _ => .slice none 0 0) (fun _ => rfl) ⟨none, ⟨0, rfl, Nat.le_refl _⟩, .inl rfl⟩
  have hk := k F hF w0 _ hm S2 (by rw [List.length_append]; exact hw)
  have hv := hd (e.setV h.length (fun _ => .slice none 0 0) (fun _ => rfl)) e (by simp [Env.setV]) (agree_setV e h.length _ _)
  rw [← hv]
  exact hk
end Go.Sx
/- Circuits with nil slices. -/
namespace Go.Proofs.Ytpghmnpbfaichaa
open Go.Sx Go.Pl
set_option linter.unusedVariables false
set_option maxRecDepth 100000
theorem pdN_ok (b0 b1 : Bool) (c : Cir) (hc : c.ok) (hl : c.looks = []) (he : c.eqs = []) (Q : SV → List HO → Prop) (hq : Q (.tup [.v (.int .i64 (degV c)), .v (.int .i64 (chkC c))]) []) : FnOk Try.prog 23 [.agg [.v (.int .i64 c.fx), .v (.int .i64 c.ad), .v (.int .i64 c.ins), .x 0 [], .x 1 [], .v (.slice none 0 0), .v (.slice none 0 0)]] [.ext b0 (.s false 7 c.nodes.length (cN c.nodes)), .ext b1 (.s false 1 c.gates.length (cI c.gates))] Q := by
  have hs : ∀ (e e0 : Env) (n : Nat), agree n e0 e → ∀ i, i < n → e.val i [] = e0.val i [] := fun e e0 n ag i hi => by rw [(ag.1 i hi).2.2]
  refine FnOk.nilX (args' := [.agg [.v (.int .i64 c.fx), .v (.int .i64 c.ad), .v (.int .i64 c.ins), .x 0 [], .x 1 [], .x 2 [], .v (.slice none 0 0)]]) 2 (cL c.looks) ?_ ?_ ?_
  · simp [wsL, ws]
  · intro e e0 hv ag
    simp only [List.length_cons, List.length_nil] at hv ag
    simp [denL, den, hv, hs e e0 _ ag 0 (by omega), hs e e0 _ ag 1 (by omega)]
  refine FnOk.nilX (args' := [.agg [.v (.int .i64 c.fx), .v (.int .i64 c.ad), .v (.int .i64 c.ins), .x 0 [], .x 1 [], .x 2 [], .x 3 []]]) 2 (cK c.eqs) ?_ ?_ ?_
  · simp [wsL, ws]
  · intro e e0 hv ag
    simp only [List.length_cons, List.length_nil, List.length_append] at hv ag
    simp [denL, den, hv, hs e e0 _ ag 0 (by omega), hs e e0 _ ag 1 (by omega), hs e e0 _ ag 2 (by omega)]
  have := pd_ok b0 b1 c hc Q hq
  rw [hl, he] at this
  rw [hl, he]
  exact this
noncomputable def g_pdN : List SV → List HO → Option ((SV → List HO → Prop) → Prop)
  | [.agg [.v (.int .i64 fx), .v (.int .i64 ad), .v (.int .i64 ins), .x 0 [], .x 1 [], .v (.slice none 0 0), .v (.slice none 0 0)]], [.ext _ (.s false 7 n0 c0), .ext _ (.s false 1 n1 c1)] =>
    some fun Q => lC fx ad ins n0 n1 0 0 c0 c1 (cL []) (cK []) fun c => Q (.tup [.v (.int .i64 (degV c)), .v (.int .i64 (chkC c))]) []
  | _, _ => none
theorem g_pdN_ok (args : List SV) (h : List HO) (tr : (SV → List HO → Prop) → Prop) (Q : SV → List HO → Prop) (hc : g_pdN args h = some tr) (ht : tr Q) : FnOk Try.prog 23 args h Q := by
  unfold g_pdN at hc
  split at hc
  · simp only [Option.some.injEq] at hc
    subst hc
    obtain ⟨c, rfl, rfl, rfl, ⟨rfl, e0⟩, ⟨rfl, e1⟩, ⟨n2, e2⟩, ⟨n3, e3⟩, hk, hq⟩ := ht.h
    exact FnOk.ac (pdN_ok _ _ c hk (List.eq_nil_of_length_eq_zero n2.symm) (List.eq_nil_of_length_eq_zero n3.symm) Q hq) ⟨⟨rfl, rfl, rfl, rfl, e0⟩, ⟨rfl, rfl, rfl, rfl, e1⟩, trivial⟩
  · cases hc
theorem prN_ok (b0 b1 : Bool) (c : Cir) (hc : c.ok) (hl : c.looks = []) (he : c.eqs = []) (k x : Int) (Q : SV → List HO → Prop) (hq : Q (.tup [.v (.int .i64 (rowsV c k x).1), .v (.int .i64 (rowsV c k x).2)]) []) : FnOk Try.prog 15 [.agg [.v (.int .i64 c.fx), .v (.int .i64 c.ad), .v (.int .i64 c.ins), .x 0 [], .x 1 [], .v (.slice none 0 0), .v (.slice none 0 0)], .v (.int .i64 k), .v (.int .i64 x)] [.ext b0 (.s false 7 c.nodes.length (cN c.nodes)), .ext b1 (.s false 1 c.gates.length (cI c.gates))] Q := by
  have hs : ∀ (e e0 : Env) (n : Nat), agree n e0 e → ∀ i, i < n → e.val i [] = e0.val i [] := fun e e0 n ag i hi => by rw [(ag.1 i hi).2.2]
  refine FnOk.nilX (args' := [.agg [.v (.int .i64 c.fx), .v (.int .i64 c.ad), .v (.int .i64 c.ins), .x 0 [], .x 1 [], .x 2 [], .v (.slice none 0 0)], .v (.int .i64 k), .v (.int .i64 x)]) 2 (cL c.looks) ?_ ?_ ?_
  · simp [wsL, ws]
  · intro e e0 hv ag
    simp only [List.length_cons, List.length_nil] at hv ag
    simp [denL, den, hv, hs e e0 _ ag 0 (by omega), hs e e0 _ ag 1 (by omega)]
  refine FnOk.nilX (args' := [.agg [.v (.int .i64 c.fx), .v (.int .i64 c.ad), .v (.int .i64 c.ins), .x 0 [], .x 1 [], .x 2 [], .x 3 []], .v (.int .i64 k), .v (.int .i64 x)]) 2 (cK c.eqs) ?_ ?_ ?_
  · simp [wsL, ws]
  · intro e e0 hv ag
    simp only [List.length_cons, List.length_nil, List.length_append] at hv ag
    simp [denL, den, hv, hs e e0 _ ag 0 (by omega), hs e e0 _ ag 1 (by omega), hs e e0 _ ag 2 (by omega)]
  have := pr_ok b0 b1 c hc k x Q hq
  rw [hl, he] at this
  rw [hl, he]
  exact this
noncomputable def g_prN : List SV → List HO → Option ((SV → List HO → Prop) → Prop)
  | [.agg [.v (.int .i64 fx), .v (.int .i64 ad), .v (.int .i64 ins), .x 0 [], .x 1 [], .v (.slice none 0 0), .v (.slice none 0 0)], .v (.int .i64 k), .v (.int .i64 x)], [.ext _ (.s false 7 n0 c0), .ext _ (.s false 1 n1 c1)] =>
    some fun Q => lC fx ad ins n0 n1 0 0 c0 c1 (cL []) (cK []) fun c => Q (.tup [.v (.int .i64 (rowsV c k x).1), .v (.int .i64 (rowsV c k x).2)]) []
  | _, _ => none
theorem g_prN_ok (args : List SV) (h : List HO) (tr : (SV → List HO → Prop) → Prop) (Q : SV → List HO → Prop) (hc : g_prN args h = some tr) (ht : tr Q) : FnOk Try.prog 15 args h Q := by
  unfold g_prN at hc
  split at hc
  · simp only [Option.some.injEq] at hc
    subst hc
    obtain ⟨c, rfl, rfl, rfl, ⟨rfl, e0⟩, ⟨rfl, e1⟩, ⟨n2, e2⟩, ⟨n3, e3⟩, hk, hq⟩ := ht.h
    exact FnOk.ac (prN_ok _ _ c hk (List.eq_nil_of_length_eq_zero n2.symm) (List.eq_nil_of_length_eq_zero n3.symm) _ _ Q hq) ⟨⟨rfl, rfl, rfl, rfl, e0⟩, ⟨rfl, rfl, rfl, rfl, e1⟩, trivial⟩
  · cases hc
noncomputable def K58 : Con Try.prog := (K57.add 23 g_pdN g_pdN_ok).add 15 g_prN g_prN_ok
end Go.Proofs.Ytpghmnpbfaichaa
/- The statements' first line. -/
namespace Go.Pl
open Go.Sx
def alC : Cir := ⟨0, 1, 0, [⟨3, 0, 0, 0⟩, ⟨3, 0, 1, 0⟩, ⟨6, 0, 1, 0⟩], [2], [], []⟩
theorem alC_n : IsC 3 7 (lc 7 [Cell.v (vi64 (3 : Int)), Cell.v (vi64 (0 : Int)), Cell.v (vi64 (0 : Int)), Cell.v (vu64 (0 : Int)), Cell.v (vu64 (0 : Int)), Cell.v (vu64 (0 : Int)), Cell.v (vu64 (0 : Int)), Cell.v (vi64 (3 : Int)), Cell.v (vi64 (0 : Int)), Cell.v (vi64 (1 : Int)), Cell.v (vu64 (0 : Int)), Cell.v (vu64 (0 : Int)), Cell.v (vu64 (0 : Int)), Cell.v (vu64 (0 : Int)), Cell.v (vi64 (6 : Int)), Cell.v (vi64 (0 : Int)), Cell.v (vi64 (1 : Int)), Cell.v (vu64 (0 : Int)), Cell.v (vu64 (0 : Int)), Cell.v (vu64 (0 : Int)), Cell.v (vu64 (0 : Int))]) (cN alC.nodes) := by
  intro k hk j hj
  have hk' : k = 0 ∨ k = 1 ∨ k = 2 := by omega
  have hj' : j = 0 ∨ j = 1 ∨ j = 2 ∨ j = 3 ∨ j = 4 ∨ j = 5 ∨ j = 6 := by omega
  rcases hk' with rfl | rfl | rfl <;> rcases hj' with rfl | rfl | rfl | rfl | rfl | rfl | rfl <;> simp [lc, cN, gN, alC, ndCell, limb_zero]
theorem alC_g : IsC 1 1 (lc 1 [Cell.v (vi64 (2 : Int))]) (cI alC.gates) := by
  intro k hk j hj
  have hk' : k = 0 := by omega
  have hj' : j = 0 := by omega
  subst hk' hj'
  rfl
theorem alC_ok : alC.ok where
  f := by unfold i64; simp only [alC]; omega
  a := by unfold i64; simp only [alC]; omega
  i := by unfold i64; simp only [alC]; omega
  n := by
    refine ⟨?_, by decide⟩
    intro x hx
    simp only [alC, List.mem_cons, List.not_mem_nil, or_false] at hx
    rcases hx with rfl | rfl | rfl <;> simp only [top, i64] <;> omega
  g := by
    refine ⟨?_, by decide⟩
    intro x hx
    simp only [alC, List.mem_singleton] at hx
    subst hx
    unfold i64; omega
  l := by refine ⟨?_, by decide⟩; intro x hx; cases hx
  e := by refine ⟨?_, by decide⟩; intro x hx; cases hx
theorem alC_chk : chkC alC = 0 := by decide +kernel
theorem alC_deg : degV alC = 3 := by decide +kernel
theorem alC_rows : rowsV alC 3 2 = (0, 3) := by decide +kernel
end Go.Pl
namespace Go.Proofs.Ytpghmnpbfaichaa
open Go.Sx Go.Pl
set_option linter.unusedVariables false
set_option maxRecDepth 100000
theorem alcS  (K : List It → St → Prop) (R : SV → List HO → Prop) : W (xwp Try.prog X K58 [(20, [])] 60 (fxOf Try.f13 [] []) [] [.at []] ⟨argsS 0 [], []⟩ K R) = W ((∀ (M : Mem), 7 ≤ 7) ∧ lC (0 : Int) (1 : Int) (0 : Int) 3 1 0 0 (lc 7 [Cell.v (vi64 (3 : Int)), Cell.v (vi64 (0 : Int)), Cell.v (vi64 (0 : Int)), Cell.v (vu64 (0 : Int)), Cell.v (vu64 (0 : Int)), Cell.v (vu64 (0 : Int)), Cell.v (vu64 (0 : Int)), Cell.v (vi64 (3 : Int)), Cell.v (vi64 (0 : Int)), Cell.v (vi64 (1 : Int)), Cell.v (vu64 (0 : Int)), Cell.v (vu64 (0 : Int)), Cell.v (vu64 (0 : Int)), Cell.v (vu64 (0 : Int)), Cell.v (vi64 (6 : Int)), Cell.v (vi64 (0 : Int)), Cell.v (vi64 (1 : Int)), Cell.v (vu64 (0 : Int)), Cell.v (vu64 (0 : Int)), Cell.v (vu64 (0 : Int)), Cell.v (vu64 (0 : Int))]) (lc 1 [Cell.v (vi64 (2 : Int))]) (cL []) (cK []) fun (c : Cir) => lC (0 : Int) (1 : Int) (0 : Int) 3 1 0 0 (lc 7 [Cell.v (vi64 (3 : Int)), Cell.v (vi64 (0 : Int)), Cell.v (vi64 (0 : Int)), Cell.v (vu64 (0 : Int)), Cell.v (vu64 (0 : Int)), Cell.v (vu64 (0 : Int)), Cell.v (vu64 (0 : Int)), Cell.v (vi64 (3 : Int)), Cell.v (vi64 (0 : Int)), Cell.v (vi64 (1 : Int)), Cell.v (vu64 (0 : Int)), Cell.v (vu64 (0 : Int)), Cell.v (vu64 (0 : Int)), Cell.v (vu64 (0 : Int)), Cell.v (vi64 (6 : Int)), Cell.v (vi64 (0 : Int)), Cell.v (vi64 (1 : Int)), Cell.v (vu64 (0 : Int)), Cell.v (vu64 (0 : Int)), Cell.v (vu64 (0 : Int)), Cell.v (vu64 (0 : Int))]) (lc 1 [Cell.v (vi64 (2 : Int))]) (cL []) (cK []) fun (c_1 : Cir) => lC (0 : Int) (1 : Int) (0 : Int) 3 1 0 0 (lc 7 [Cell.v (vi64 (3 : Int)), Cell.v (vi64 (0 : Int)), Cell.v (vi64 (0 : Int)), Cell.v (vu64 (0 : Int)), Cell.v (vu64 (0 : Int)), Cell.v (vu64 (0 : Int)), Cell.v (vu64 (0 : Int)), Cell.v (vi64 (3 : Int)), Cell.v (vi64 (0 : Int)), Cell.v (vi64 (1 : Int)), Cell.v (vu64 (0 : Int)), Cell.v (vu64 (0 : Int)), Cell.v (vu64 (0 : Int)), Cell.v (vu64 (0 : Int)), Cell.v (vi64 (6 : Int)), Cell.v (vi64 (0 : Int)), Cell.v (vi64 (1 : Int)), Cell.v (vu64 (0 : Int)), Cell.v (vu64 (0 : Int)), Cell.v (vu64 (0 : Int)), Cell.v (vu64 (0 : Int))]) (lc 1 [Cell.v (vi64 (2 : Int))]) (cL []) (cK []) fun (c_2 : Cir) => bif chkC c_2 == (0 : Int) then bif degV c == (3 : Int) then bif chkC c == (0 : Int) then bif (rowsV c_1 (3 : Int) (2 : Int)).1 == (0 : Int) then bif (rowsV c_1 (3 : Int) (2 : Int)).2 == (3 : Int) then R (SV.v (Value.bool true)) [] else R (SV.v (Value.bool false)) [] else R (SV.v (Value.bool false)) [] else R (SV.v (Value.bool false)) [] else R (SV.v (Value.bool false)) [] else R (SV.v (Value.bool false)) []) := by kernel_rfl
theorem bAlc : Try.f13.body.isSome = true := by kernel_rfl
theorem nAlc : Nat.ble ([] : List SV).length Try.f13.ntmps = true := by kernel_rfl
theorem alc_ok (Q : SV → List HO → Prop) (hq : Q (.v (.bool true)) []) : FnOk Try.prog 13 [] [] Q := by
  refine fn_of_ok Try.func13 bAlc ?_ ?_
  · exact nAlc
  refine run_sound hm 60 ((alcS _ _).mpr ⟨?_⟩)
  have hl : ∀ {k : Cir → Prop}, k alC → lC 0 1 0 3 1 0 0 (lc 7 [Cell.v (vi64 (3 : Int)), Cell.v (vi64 (0 : Int)), Cell.v (vi64 (0 : Int)), Cell.v (vu64 (0 : Int)), Cell.v (vu64 (0 : Int)), Cell.v (vu64 (0 : Int)), Cell.v (vu64 (0 : Int)), Cell.v (vi64 (3 : Int)), Cell.v (vi64 (0 : Int)), Cell.v (vi64 (1 : Int)), Cell.v (vu64 (0 : Int)), Cell.v (vu64 (0 : Int)), Cell.v (vu64 (0 : Int)), Cell.v (vu64 (0 : Int)), Cell.v (vi64 (6 : Int)), Cell.v (vi64 (0 : Int)), Cell.v (vi64 (1 : Int)), Cell.v (vu64 (0 : Int)), Cell.v (vu64 (0 : Int)), Cell.v (vu64 (0 : Int)), Cell.v (vu64 (0 : Int))]) (lc 1 [Cell.v (vi64 (2 : Int))]) (cL []) (cK []) k := by
    intro k hk
    have := lC_mk alC alC_ok hk
    obtain ⟨c, e1, e2, e3, ⟨n0, i0⟩, ⟨n1, i1⟩, r2, r3, rest⟩ := this.h
    exact ⟨c, e1, e2, e3, ⟨n0, alC_n.trans i0⟩, ⟨n1, alC_g.trans i1⟩, r2, r3, rest⟩
  refine ⟨fun _ => Nat.le_refl 7, hl (hl (hl ?_))⟩
  rw [alC_chk, alC_deg, alC_rows]
  exact hq
noncomputable def gAlc : List SV → List HO → Option ((SV → List HO → Prop) → Prop)
  | [], [] => some fun Q => Q (.v (.bool true)) []
  | _, _ => none
theorem gAlc_ok (args : List SV) (h : List HO) (tr : (SV → List HO → Prop) → Prop) (Q : SV → List HO → Prop) (hc : gAlc args h = some tr) (ht : tr Q) : FnOk Try.prog 13 args h Q := by
  unfold gAlc at hc
  split at hc
  · simp only [Option.some.injEq] at hc
    subst hc
    exact alc_ok Q ht
  · cases hc
noncomputable def K59 : Con Try.prog := K57.add 13 gAlc gAlc_ok
end Go.Proofs.Ytpghmnpbfaichaa
/- All queries of a circuit, both; circuits compared. -/
namespace Go.Pl
open Go.Sx
def addQ (out : List (Int × Int × Int)) (x : Int × Int) : List (Int × Int × Int) := if (x.1, x.2, 0) ∈ out then out else out ++ [(x.1, x.2, 0)]
def ndK (x : Int × Int) : Nd := ⟨x.1, x.2, 0, 0⟩
/-- All queries of a circuit. -/
def queV (c : Cir) : List (Int × Int × Int) := if chkC c = 0 then c.eqs.foldl addQ (qsN [] c.nodes) else []
theorem qsN_app : ∀ (a b : List Nd) (out : List (Int × Int × Int)), qsN out (a ++ b) = qsN (qsN out a) b
  | [], _, _ => rfl
  | x :: r, b, out => by
    rw [List.cons_append, qsN_step, qsN_step]
    split <;> exact qsN_app r b _
theorem eqF_ok {c : Cir} : ∀ (l seen : List (Int × Int)), eqF c seen l = true → ∀ x ∈ l, okK c x = true
  | [], _, _, x, hx => by cases hx
  | y :: r, seen, h, x, hx => by
    rw [eqF, Bool.and_eq_true, Bool.and_eq_true] at h
    rcases List.mem_cons.1 hx with rfl | hx
    · exact h.1.1
    · exact eqF_ok r _ h.2 x hx
theorem okK_kind {c : Cir} {x : Int × Int} (h : okK c x = true) : 2 ≤ x.1 ∧ x.1 ≤ 4 := (of_decide_eq_true h).1
theorem qsN_kinds : ∀ (l : List (Int × Int)) (out : List (Int × Int × Int)), (∀ x ∈ l, 2 ≤ x.1 ∧ x.1 ≤ 4) → qsN out (l.map ndK) = l.foldl addQ out
  | [], _, _ => rfl
  | x :: r, out, h => by
    rw [List.map_cons, List.foldl_cons, addQ]
    by_cases hm : (x.1, x.2, (0 : Int)) ∈ out
    · rw [if_pos hm, qsN_old out _ hm]
      exact qsN_kinds r out fun y hy => h y (List.mem_cons_of_mem _ hy)
    · rw [if_neg hm, qsN_new out _ (h x List.mem_cons_self) hm]
      exact qsN_kinds r _ fun y hy => h y (List.mem_cons_of_mem _ hy)
theorem queV_eq {c : Cir} (h : chkC c = 0) : qsN [] (c.nodes ++ c.eqs.map ndK) = queV c := by
  obtain ⟨_, hg⟩ := chkC_zero h
  have h2 := (goodB_all hg).2.2.2.1
  rw [queV, if_pos h, qsN_app, qsN_kinds _ _ fun x hx => okK_kind (eqF_ok _ _ h2 x hx)]
theorem chkC_len {c : Cir} (h : chkC c = 0) : c.nodes.length ≤ 64 ∧ c.gates.length ≤ 16 ∧ c.looks.length ≤ 4 ∧ c.eqs.length ≤ 8 := by
  obtain ⟨h0, hg⟩ := chkC_zero h
  have h1 : cntOk c := of_decide_eq_true (goodB_all hg).1
  refine ⟨?_, h1.2.2.2.2⟩
  rw [chkN] at h0
  split at h0
  · cases h0
  · rename_i hn
    exact Nat.le_of_not_lt fun hh => hn (.inl hh)
theorem addQ_len (out : List (Int × Int × Int)) (x : Int × Int) : (addQ out x).length ≤ out.length + 1 := by
  rw [addQ]
  split
  · omega
  · rw [List.length_append, List.length_singleton]; omega
theorem foldQ_len : ∀ (l : List (Int × Int)) (out : List (Int × Int × Int)), (l.foldl addQ out).length ≤ out.length + l.length
  | [], _ => Nat.le_refl _
  | x :: r, out => by
    have h1 := foldQ_len r (addQ out x)
    have h2 := addQ_len out x
    rw [List.foldl_cons, List.length_cons]; omega
theorem queV_len (c : Cir) : (queV c).length ≤ 72 := by
  by_cases h : chkC c = 0
  · obtain ⟨h1, _, _, h2⟩ := chkC_len h
    have h3 := foldQ_len c.eqs (qsN [] c.nodes)
    have h4 := qsN_len c.nodes []
    rw [List.length_nil] at h4
    rw [queV, if_pos h]; omega
  · rw [queV, if_neg h]; exact Nat.zero_le _
end Go.Pl
namespace Go.Proofs.Ytpghmnpbfaichaa
open Go.Sx Go.Pl
set_option linter.unusedVariables false
set_option maxRecDepth 100000
theorem pqS (c : Cir) (K : List It → St → Prop) (R : SV → List HO → Prop) : W (xwp Try.prog X K59 [(20, []), (63, [])] 60 (fxOf Try.f28 [] [⟨[0,1,0,1,1,1], [16,15,14,3], []⟩]) [] [.at []] ⟨argsS 0 [.agg [.v (.int .i64 c.fx), .v (.int .i64 c.ad), .v (.int .i64 c.ins), .x 0 [], .x 1 [], .x 2 [], .x 3 []]], [.ext false (.s false 7 c.nodes.length (cN c.nodes)), .ext false (.s false 1 c.gates.length (cI c.gates)), .ext false (.s false 2 c.looks.length (cL c.looks)), .ext false (.s false 2 c.eqs.length (cK c.eqs))]⟩ K R) = W (lC c.1 c.2 c.3 (List.length c.4) (List.length c.5) (List.length c.6) (List.length c.7) (cN c.4) (cI c.5) (cL c.6) (cK c.7) fun (c_1 : Cir) => bif !chkC c_1 == (0 : Int) then R (SV.v (Value.slice none 0 0)) [] else ∃ (l : List Nd), List.length c.4 = List.length l ∧ IsC (List.length c.4) 7 (cN c.4) (cN l) ∧ List.length l ≤ 4000000000000 ∧ K [It.at [0, 1, 0, 1, 1, 1], It.blk 0, It.at [1, 1, 1, 1]] (St.mk [(16, SV.v (vi64 (0 : Int))), (15, SV.v (vi64 (↑(List.length c.7) : Int))), (14, SV.x 0 []), (3, SV.o 1)] [HO.ext false (Cell.s false 2 (List.length c.7) (cK c.7)), HO.rowc 63 3 (List.length (qsN [] l)) (Ct.fn (cQ (qsN [] l)))])) := by kernel_rfl
theorem pqR (l : List (Int × Int)) (out : List (Int × Int × Int)) (n m k M : Nat) (K : List It → St → Prop) (R : SV → List HO → Prop) : W (xwp Try.prog X K59 [(20, []), (63, [])] 60 (fxOf Try.f28 [] [⟨[0,1,0,1,1,1], [16,15,14,3], []⟩]) [] (.at [0,0,1,0,1,1,1] :: .rnd [0,0,1,0,1,1,1] M :: [.blk 0, .at [1,1,1,1]]) ⟨[(16, .v (.int .i64 (k : Int))), (15, .v (.int .i64 (n : Int))), (14, .x 0 []), (3, .o 1)], [.ext false (.s false 2 n (cK l)), .rowc 63 3 m (.fn (cQ out))]⟩ K R) = W (bif decide ((↑k : Int) < (↑n : Int)) then (∀ (M : Mem), (0 : Int) ≤ (↑k : Int) ∧ (↑k : Int) < (↑n : Int)) ∧ (∀ (M : Mem), k < n) ∧ (∀ (M : Mem), 0 + 2 ≤ 2) ∧ (∀ (M : Mem), 0 + 3 ≤ 3) ∧ ∃ (l_1 : List (Int × Int × Int)), m = List.length l_1 ∧ IsC m 3 (cQ out) (cQ l_1) ∧ List.length l_1 ≤ 4398046511104 ∧ bif !decide ((0 : Int) ≤ idxF (sameQ (gK l k).1 (gK l k).2 (0 : Int)) 0 l_1) then (∀ (M : Mem), (m + 1) * 24 ≤ 140737488355328 ∧ m + 1 ≤ 140737488355328) ∧ K [It.rnd [0, 0, 1, 0, 1, 1, 1] M, It.blk 0, It.at [1, 1, 1, 1]] (St.mk [(16, SV.v (vi64 (IntKind.wrap IntKind.i64 ((↑k : Int) + (1 : Int))))), (15, SV.v (vi64 (↑n : Int))), (14, SV.x 0 []), (3, SV.o 1)] [HO.ext false (Cell.s false 2 n (cK l)), HO.rowc 63 3 (m + 1) (Ct.app m (Ct.fn (cQ out)) (Ct.lit 3 [Cell.v (vi64 (gK l k).1), Cell.v (vi64 (gK l k).2), Cell.v (vi64 (0 : Int))]))]) else K [It.rnd [0, 0, 1, 0, 1, 1, 1] M, It.blk 0, It.at [1, 1, 1, 1]] (St.mk [(16, SV.v (vi64 (IntKind.wrap IntKind.i64 ((↑k : Int) + (1 : Int))))), (15, SV.v (vi64 (↑n : Int))), (14, SV.x 0 []), (3, SV.o 1)] [HO.ext false (Cell.s false 2 n (cK l)), HO.rowc 63 3 m (Ct.fn (cQ out))]) else R (SV.o 0) [HO.rowc 63 3 m (Ct.fn (cQ out))]) := by kernel_rfl
theorem rqqS (c : Cir) (K : List It → St → Prop) (R : SV → List HO → Prop) : W (xwp Try.prog X K59 [(20, []), (63, [])] 60 (fxOf Try.f29 [] [⟨[0,1,0,1,1,1,1], [4,3,1], []⟩]) [] [.at []] ⟨argsS 0 [.agg [.v (.int .i64 c.fx), .v (.int .i64 c.ad), .v (.int .i64 c.ins), .x 0 [], .x 1 [], .x 2 [], .x 3 []]], [.ext false (.s false 7 c.nodes.length (cN c.nodes)), .ext false (.s false 1 c.gates.length (cI c.gates)), .ext false (.s false 2 c.looks.length (cL c.looks)), .ext false (.s false 2 c.eqs.length (cK c.eqs))]⟩ K R) = W (lC c.1 c.2 c.3 (List.length c.4) (List.length c.5) (List.length c.6) (List.length c.7) (cN c.4) (cI c.5) (cL c.6) (cK c.7) fun (c_1 : Cir) => bif !chkC c_1 == (0 : Int) then R (SV.v (Value.slice none 0 0)) [] else (∀ (M : Mem), (0 + List.length c.4) * 56 ≤ 140737488355328 ∧ 0 + List.length c.4 ≤ 140737488355328) ∧ K [It.at [0, 1, 0, 1, 1, 1, 1], It.blk 0, It.at [1, 1, 1, 1, 1]] (St.mk [(4, SV.v (vi64 (0 : Int))), (3, SV.o 0), (1, SV.p 1 0)] [HO.rowc 43 7 (0 + List.length c.4) (Ct.app 0 (Ct.lit 7 []) (Ct.fn (cN c.4))), HO.cells [SV.v (vi64 c.1), SV.v (vi64 c.2), SV.v (vi64 c.3), SV.x 2 [], SV.x 3 [], SV.x 4 [], SV.x 5 []] 27, HO.ext false (Cell.s false 7 (List.length c.4) (cN c.4)), HO.ext false (Cell.s false 1 (List.length c.5) (cI c.5)), HO.ext false (Cell.s false 2 (List.length c.6) (cL c.6)), HO.ext false (Cell.s false 2 (List.length c.7) (cK c.7))])) := by kernel_rfl
theorem rqqR (c : Cir) (ls : List Nd) (m k M : Nat) (K : List It → St → Prop) (R : SV → List HO → Prop) : W (xwp Try.prog X K59 [(20, []), (63, [])] 60 (fxOf Try.f29 [] [⟨[0,1,0,1,1,1,1], [4,3,1], []⟩]) [] (.at [0,0,1,0,1,1,1,1] :: .rnd [0,0,1,0,1,1,1,1] M :: [.blk 0, .at [1,1,1,1,1]]) ⟨[(4, .v (.int .i64 (k : Int))), (3, .o 0), (1, .p 1 0)], [.rowc 43 7 m (.fn (cN ls)), .cells [.v (.int .i64 c.fx), .v (.int .i64 c.ad), .v (.int .i64 c.ins), .x 2 [], .x 3 [], .x 4 [], .x 5 []] 27, .ext false (.s false 7 c.nodes.length (cN c.nodes)), .ext false (.s false 1 c.gates.length (cI c.gates)), .ext false (.s false 2 c.looks.length (cL c.looks)), .ext false (.s false 2 c.eqs.length (cK c.eqs))]⟩ K R) = W (bif decide ((↑k : Int) < (↑(List.length c.7) : Int)) then (∀ (M : Mem), (0 : Int) ≤ (↑k : Int) ∧ (↑k : Int) < (↑(List.length c.7) : Int)) ∧ (∀ (M : Mem), k < List.length c.7) ∧ (∀ (M : Mem), k < List.length c.7) ∧ (∀ (M : Mem), (0 : Int) ≤ (↑k : Int) ∧ (↑k : Int) < (↑(List.length c.7) : Int)) ∧ (∀ (M : Mem), k < List.length c.7) ∧ (∀ (M : Mem), k < List.length c.7) ∧ (∀ (M : Mem), (m + 1) * 56 ≤ 140737488355328 ∧ m + 1 ≤ 140737488355328) ∧ K [It.rnd [0, 0, 1, 0, 1, 1, 1, 1] M, It.blk 0, It.at [1, 1, 1, 1, 1]] (St.mk [(4, SV.v (vi64 (IntKind.wrap IntKind.i64 ((↑k : Int) + (1 : Int))))), (3, SV.o 0), (1, SV.p 1 0)] [HO.rowc 43 7 (m + 1) (Ct.app m (Ct.fn (cN ls)) (Ct.lit 7 [Cell.v (vi64 (gK c.7 k).1), Cell.v (vi64 (gK c.7 k).2), Cell.v (vi64 (0 : Int)), Cell.v (vu64 (0 : Int)), Cell.v (vu64 (0 : Int)), Cell.v (vu64 (0 : Int)), Cell.v (vu64 (0 : Int))])), HO.cells [SV.v (vi64 c.1), SV.v (vi64 c.2), SV.v (vi64 c.3), SV.x 2 [], SV.x 3 [], SV.x 4 [], SV.x 5 []] 27, HO.ext false (Cell.s false 7 (List.length c.4) (cN c.4)), HO.ext false (Cell.s false 1 (List.length c.5) (cI c.5)), HO.ext false (Cell.s false 2 (List.length c.6) (cL c.6)), HO.ext false (Cell.s false 2 (List.length c.7) (cK c.7))]) else ∃ (l : List Nd), m = List.length l ∧ IsC m 7 (cN ls) (cN l) ∧ List.length l ≤ 4000000000000 ∧ R (SV.o 0) [HO.rowc 63 3 (List.length (qsN [] l)) (Ct.fn (cQ (qsN [] l)))]) := by kernel_rfl
theorem sc1 (c d : Cir) (k M : Nat) (K : List It → St → Prop) (R : SV → List HO → Prop) : W (xwp Try.prog X K59 [] 60 (fxOf Try.f30 [] [⟨[0,1,0,1,1], [5,2,3], []⟩, ⟨[0,1,0,1,1,1], [6,2,3], []⟩]) [] (.at [0,0,1,0,1,1] :: .rnd [0,0,1,0,1,1] M :: [.blk 0, .at [1,1,1]]) ⟨[(5, .v (.int .i64 (k : Int))), (2, .p 0 0), (3, .p 1 0)], [.cells [.v (.int .i64 c.fx), .v (.int .i64 c.ad), .v (.int .i64 c.ins), .x 2 [], .x 3 [], .x 4 [], .x 5 []] 27, .cells [.v (.int .i64 d.fx), .v (.int .i64 d.ad), .v (.int .i64 d.ins), .x 6 [], .x 7 [], .x 8 [], .x 9 []] 27, .ext false (.s false 7 c.nodes.length (cN c.nodes)), .ext false (.s false 1 c.gates.length (cI c.gates)), .ext false (.s false 2 c.looks.length (cL c.looks)), .ext false (.s false 2 c.eqs.length (cK c.eqs)), .ext false (.s false 7 d.nodes.length (cN d.nodes)), .ext false (.s false 1 d.gates.length (cI d.gates)), .ext false (.s false 2 d.looks.length (cL d.looks)), .ext false (.s false 2 d.eqs.length (cK d.eqs))]⟩ K R) = W (bif decide ((↑k : Int) < (↑(List.length c.6) : Int)) then (∀ (M : Mem), (0 : Int) ≤ (↑k : Int) ∧ (↑k : Int) < (↑(List.length c.6) : Int)) ∧ (∀ (M : Mem), k < List.length c.6) ∧ (∀ (M : Mem), k < List.length c.6) ∧ (∀ (M : Mem), (0 : Int) ≤ (↑k : Int) ∧ (↑k : Int) < (↑(List.length d.6) : Int)) ∧ (∀ (M : Mem), k < List.length d.6) ∧ (∀ (M : Mem), k < List.length d.6) ∧ (∀ (M : Mem), k < List.length c.6) ∧ (∀ (M : Mem), k < List.length d.6) ∧ lI2 (List.length (gL c.6 k).1) (List.length (gL d.6 k).1) (cI (gL c.6 k).1) (cI (gL d.6 k).1) fun (l l2 : List Int) => bif !decide (l = l2) then R (SV.v (Value.bool false)) [] else (∀ (M : Mem), (0 : Int) ≤ (↑k : Int) ∧ (↑k : Int) < (↑(List.length c.6) : Int)) ∧ (∀ (M : Mem), k < List.length c.6) ∧ (∀ (M : Mem), k < List.length c.6) ∧ (∀ (M : Mem), (0 : Int) ≤ (↑k : Int) ∧ (↑k : Int) < (↑(List.length d.6) : Int)) ∧ (∀ (M : Mem), k < List.length d.6) ∧ (∀ (M : Mem), k < List.length d.6) ∧ (∀ (M : Mem), k < List.length c.6) ∧ (∀ (M : Mem), k < List.length d.6) ∧ lI2 (List.length (gL c.6 k).2) (List.length (gL d.6 k).2) (cI (gL c.6 k).2) (cI (gL d.6 k).2) fun (l l2 : List Int) => bif !decide (l = l2) then R (SV.v (Value.bool false)) [] else K [It.rnd [0, 0, 1, 0, 1, 1] M, It.blk 0, It.at [1, 1, 1]] (St.mk [(5, SV.v (vi64 (IntKind.wrap IntKind.i64 ((↑k : Int) + (1 : Int))))), (2, SV.p 0 0), (3, SV.p 1 0)] [HO.cells [SV.v (vi64 c.1), SV.v (vi64 c.2), SV.v (vi64 c.3), SV.x 2 [], SV.x 3 [], SV.x 4 [], SV.x 5 []] 27, HO.cells [SV.v (vi64 d.1), SV.v (vi64 d.2), SV.v (vi64 d.3), SV.x 6 [], SV.x 7 [], SV.x 8 [], SV.x 9 []] 27, HO.ext false (Cell.s false 7 (List.length c.4) (cN c.4)), HO.ext false (Cell.s false 1 (List.length c.5) (cI c.5)), HO.ext false (Cell.s false 2 (List.length c.6) (cL c.6)), HO.ext false (Cell.s false 2 (List.length c.7) (cK c.7)), HO.ext false (Cell.s false 7 (List.length d.4) (cN d.4)), HO.ext false (Cell.s false 1 (List.length d.5) (cI d.5)), HO.ext false (Cell.s false 2 (List.length d.6) (cL d.6)), HO.ext false (Cell.s false 2 (List.length d.7) (cK d.7))]) else K [It.at [0, 1, 0, 1, 1, 1], It.blk 2, It.at [1, 1, 1, 1]] (St.mk [(6, SV.v (vi64 (0 : Int))), (2, SV.p 0 0), (3, SV.p 1 0)] [HO.cells [SV.v (vi64 c.1), SV.v (vi64 c.2), SV.v (vi64 c.3), SV.x 2 [], SV.x 3 [], SV.x 4 [], SV.x 5 []] 27, HO.cells [SV.v (vi64 d.1), SV.v (vi64 d.2), SV.v (vi64 d.3), SV.x 6 [], SV.x 7 [], SV.x 8 [], SV.x 9 []] 27, HO.ext false (Cell.s false 7 (List.length c.4) (cN c.4)), HO.ext false (Cell.s false 1 (List.length c.5) (cI c.5)), HO.ext false (Cell.s false 2 (List.length c.6) (cL c.6)), HO.ext false (Cell.s false 2 (List.length c.7) (cK c.7)), HO.ext false (Cell.s false 7 (List.length d.4) (cN d.4)), HO.ext false (Cell.s false 1 (List.length d.5) (cI d.5)), HO.ext false (Cell.s false 2 (List.length d.6) (cL d.6)), HO.ext false (Cell.s false 2 (List.length d.7) (cK d.7))])) := by kernel_rfl
theorem sc2 (c d : Cir) (k M : Nat) (K : List It → St → Prop) (R : SV → List HO → Prop) : W (xwp Try.prog X K59 [] 60 (fxOf Try.f30 [] [⟨[0,1,0,1,1], [5,2,3], []⟩, ⟨[0,1,0,1,1,1], [6,2,3], []⟩]) [] (.at [0,0,1,0,1,1,1] :: .rnd [0,0,1,0,1,1,1] M :: [.blk 2, .at [1,1,1,1]]) ⟨[(6, .v (.int .i64 (k : Int))), (2, .p 0 0), (3, .p 1 0)], [.cells [.v (.int .i64 c.fx), .v (.int .i64 c.ad), .v (.int .i64 c.ins), .x 2 [], .x 3 [], .x 4 [], .x 5 []] 27, .cells [.v (.int .i64 d.fx), .v (.int .i64 d.ad), .v (.int .i64 d.ins), .x 6 [], .x 7 [], .x 8 [], .x 9 []] 27, .ext false (.s false 7 c.nodes.length (cN c.nodes)), .ext false (.s false 1 c.gates.length (cI c.gates)), .ext false (.s false 2 c.looks.length (cL c.looks)), .ext false (.s false 2 c.eqs.length (cK c.eqs)), .ext false (.s false 7 d.nodes.length (cN d.nodes)), .ext false (.s false 1 d.gates.length (cI d.gates)), .ext false (.s false 2 d.looks.length (cL d.looks)), .ext false (.s false 2 d.eqs.length (cK d.eqs))]⟩ K R) = W (bif decide ((↑k : Int) < (↑(List.length c.7) : Int)) then (∀ (M : Mem), (0 : Int) ≤ (↑k : Int) ∧ (↑k : Int) < (↑(List.length c.7) : Int)) ∧ (∀ (M : Mem), k < List.length c.7) ∧ (∀ (M : Mem), (0 : Int) ≤ (↑k : Int) ∧ (↑k : Int) < (↑(List.length d.7) : Int)) ∧ (∀ (M : Mem), k < List.length d.7) ∧ bif !decide ([(gK c.7 k).1, (gK c.7 k).2] = [(gK d.7 k).1, (gK d.7 k).2]) then R (SV.v (Value.bool false)) [] else K [It.rnd [0, 0, 1, 0, 1, 1, 1] M, It.blk 2, It.at [1, 1, 1, 1]] (St.mk [(6, SV.v (vi64 (IntKind.wrap IntKind.i64 ((↑k : Int) + (1 : Int))))), (2, SV.p 0 0), (3, SV.p 1 0)] [HO.cells [SV.v (vi64 c.1), SV.v (vi64 c.2), SV.v (vi64 c.3), SV.x 2 [], SV.x 3 [], SV.x 4 [], SV.x 5 []] 27, HO.cells [SV.v (vi64 d.1), SV.v (vi64 d.2), SV.v (vi64 d.3), SV.x 6 [], SV.x 7 [], SV.x 8 [], SV.x 9 []] 27, HO.ext false (Cell.s false 7 (List.length c.4) (cN c.4)), HO.ext false (Cell.s false 1 (List.length c.5) (cI c.5)), HO.ext false (Cell.s false 2 (List.length c.6) (cL c.6)), HO.ext false (Cell.s false 2 (List.length c.7) (cK c.7)), HO.ext false (Cell.s false 7 (List.length d.4) (cN d.4)), HO.ext false (Cell.s false 1 (List.length d.5) (cI d.5)), HO.ext false (Cell.s false 2 (List.length d.6) (cL d.6)), HO.ext false (Cell.s false 2 (List.length d.7) (cK d.7))]) else R (SV.v (Value.bool true)) []) := by kernel_rfl
theorem scS (c d : Cir) (K : List It → St → Prop) (R : SV → List HO → Prop) : W (xwp Try.prog X K59 [] 60 (fxOf Try.f30 [] [⟨[0,1,0,1,1], [5,2,3], []⟩, ⟨[0,1,0,1,1,1], [6,2,3], []⟩]) [] [.at []] ⟨argsS 0 [.agg [.v (.int .i64 c.fx), .v (.int .i64 c.ad), .v (.int .i64 c.ins), .x 0 [], .x 1 [], .x 2 [], .x 3 []], .agg [.v (.int .i64 d.fx), .v (.int .i64 d.ad), .v (.int .i64 d.ins), .x 4 [], .x 5 [], .x 6 [], .x 7 []]], [.ext false (.s false 7 c.nodes.length (cN c.nodes)), .ext false (.s false 1 c.gates.length (cI c.gates)), .ext false (.s false 2 c.looks.length (cL c.looks)), .ext false (.s false 2 c.eqs.length (cK c.eqs)), .ext false (.s false 7 d.nodes.length (cN d.nodes)), .ext false (.s false 1 d.gates.length (cI d.gates)), .ext false (.s false 2 d.looks.length (cL d.looks)), .ext false (.s false 2 d.eqs.length (cK d.eqs))]⟩ K R) = W (bif !c.1 == d.1 then R (SV.v (Value.bool false)) [] else bif !c.2 == d.2 then R (SV.v (Value.bool false)) [] else bif !c.3 == d.3 then R (SV.v (Value.bool false)) [] else ∃ (l : List Nd), List.length c.4 = List.length l ∧ IsC (List.length c.4) 7 (cN c.4) (cN l) ∧ List.length l ≤ 4398046511104 ∧ ∃ (l2 : List Nd), List.length d.4 = List.length l2 ∧ IsC (List.length d.4) 7 (cN d.4) (cN l2) ∧ (∀ (x : Nd), x ∈ l → x.4 < top) ∧ (∀ (x : Nd), x ∈ l2 → x.4 < top) ∧ bif !decide (l = l2) then R (SV.v (Value.bool false)) [] else lI2 (List.length c.5) (List.length d.5) (cI c.5) (cI d.5) fun (l l2 : List Int) => bif !decide (l = l2) then R (SV.v (Value.bool false)) [] else bif !(↑(List.length c.6) : Int) == (↑(List.length d.6) : Int) then R (SV.v (Value.bool false)) [] else bif !(↑(List.length c.7) : Int) == (↑(List.length d.7) : Int) then R (SV.v (Value.bool false)) [] else K [It.at [0, 1, 0, 1, 1], It.blk 0, It.at [1, 1, 1]] (St.mk [(5, SV.v (vi64 (0 : Int))), (2, SV.p 0 0), (3, SV.p 1 0)] [HO.cells [SV.v (vi64 c.1), SV.v (vi64 c.2), SV.v (vi64 c.3), SV.x 2 [], SV.x 3 [], SV.x 4 [], SV.x 5 []] 27, HO.cells [SV.v (vi64 d.1), SV.v (vi64 d.2), SV.v (vi64 d.3), SV.x 6 [], SV.x 7 [], SV.x 8 [], SV.x 9 []] 27, HO.ext false (Cell.s false 7 (List.length c.4) (cN c.4)), HO.ext false (Cell.s false 1 (List.length c.5) (cI c.5)), HO.ext false (Cell.s false 2 (List.length c.6) (cL c.6)), HO.ext false (Cell.s false 2 (List.length c.7) (cK c.7)), HO.ext false (Cell.s false 7 (List.length d.4) (cN d.4)), HO.ext false (Cell.s false 1 (List.length d.5) (cI d.5)), HO.ext false (Cell.s false 2 (List.length d.6) (cL d.6)), HO.ext false (Cell.s false 2 (List.length d.7) (cK d.7))])) := by kernel_rfl
theorem pq_loop (l : List (Int × Int)) (hl : l.length ≤ 1000) (fin : List (Int × Int × Int)) (Q : SV → List HO → Prop) (hq : Q (.o 0) [.rowc 63 3 fin.length (.fn (cQ fin))]) : ∀ (d k : Nat) (out : List (Int × Int × Int)), k + d = l.length → out.length + d ≤ 1000 → fin = (l.drop k).foldl addQ out →
    FOk Try.prog Try.f28 Q (.rnd [0,0,1,0,1,1,1] (d + 1) :: [.blk 0, .at [1,1,1,1]]) ⟨[(16, .v (.int .i64 (k : Int))), (15, .v (.int .i64 (l.length : Int))), (14, .x 0 []), (3, .o 1)], [.ext false (.s false 2 l.length (cK l)), .rowc 63 3 out.length (.fn (cQ out))]⟩
  | 0, k, out, hd, hb, he => by
    refine FOk.rnd (run_sound hm 60 ((pqR l out l.length out.length k 0 _ _).mpr ⟨?_⟩))
    rw [cond_dec, if_neg (by omega)]
    rw [show k = l.length by omega, List.drop_length] at he
    rw [he] at hq
    exact hq
  | d + 1, k, out, hd, hb, he => by
    have hk : k < l.length := by omega
    rw [drop_gK hk, List.foldl_cons, addQ] at he
    refine FOk.rnd (run_sound hm 60 ((pqR l out l.length out.length k (d + 1) _ _).mpr ⟨?_⟩))
    rw [cond_dec, if_pos (by omega), wrap_inc _ (by omega)]
    refine And.intro (fun _ => by omega) (And.intro (fun _ => by omega) (And.intro (fun _ => by omega) (And.intro (fun _ => by omega) (⟨out, rfl, IsC.refl _ _ _, by omega, ?_⟩))))
    simp only [cond_dec, cond_not, idx_has]
    refine ite_intro (fun h => ?_) (fun h => ?_)
    · rw [if_pos h] at he
      exact pq_loop l hl fin Q hq d (k + 1) out (by omega) (by omega) he
    · rw [if_neg h] at he
      have next := pq_loop l hl fin Q hq d (k + 1) (out ++ [((gK l k).1, (gK l k).2, 0)]) (by omega) (by rw [List.length_append, List.length_singleton]; omega) he
      rw [List.length_append, List.length_singleton] at next
      exact And.intro (fun _ => by omega) (FOk.cv next ⟨HE.refl _, ⟨rfl, rfl, rfl, cQ_snoc ((gK l k).1, (gK l k).2, 0) rfl⟩, trivial⟩)
theorem bPq : Try.f28.body.isSome = true := by kernel_rfl
theorem nPq (c : Cir) : Nat.ble [(.agg [.v (.int .i64 c.fx), .v (.int .i64 c.ad), .v (.int .i64 c.ins), .x 0 [], .x 1 [], .x 2 [], .x 3 []] : SV)].length Try.f28.ntmps = true := by kernel_rfl
theorem pq1_ok (c : Cir) (hc : c.ok) (Q : SV → List HO → Prop) (hq1 : chkC c ≠ 0 → Q (.v (.slice none 0 0)) []) (hq : chkC c = 0 → Q (.o 0) [.rowc 63 3 (queV c).length (.fn (cQ (queV c)))]) : FnOk Try.prog 28 [.agg [.v (.int .i64 c.fx), .v (.int .i64 c.ad), .v (.int .i64 c.ins), .x 0 [], .x 1 [], .x 2 [], .x 3 []]] [.ext false (.s false 7 c.nodes.length (cN c.nodes)), .ext false (.s false 1 c.gates.length (cI c.gates)), .ext false (.s false 2 c.looks.length (cL c.looks)), .ext false (.s false 2 c.eqs.length (cK c.eqs))] Q := by
  refine fn_of_ok Try.func28 bPq ?_ ?_
  · exact nPq c
  refine run_sound hm 60 ((pqS c _ _).mpr ⟨?_⟩)
  simp only [cond_not, cond_beq]
  refine lC_mk c hc (ite_intro (fun a1 => ?_) (fun a1 => hq1 a1))
  obtain ⟨h1, _, _, h2⟩ := chkC_len a1
  have h4 := qsN_len c.nodes []
  rw [List.length_nil] at h4
  refine ⟨c.nodes, rfl, IsC.refl _ _ _, by omega, ?_⟩
  exact FOk.loop (c.eqs.length + 1) (by kernel_rfl) (pq_loop c.eqs (by omega) (queV c) Q (hq a1) c.eqs.length 0 (qsN [] c.nodes) (by omega) (by omega) (by rw [queV, if_pos a1]; rfl))
theorem pqu_ok (c : Cir) (hc : c.ok) (Q : SV → List HO → Prop) (hq : Q (.o 0) [.rowc 63 3 (queV c).length (.fn (cQ (queV c)))]) : FnOk Try.prog 28 [.agg [.v (.int .i64 c.fx), .v (.int .i64 c.ad), .v (.int .i64 c.ins), .x 0 [], .x 1 [], .x 2 [], .x 3 []]] [.ext false (.s false 7 c.nodes.length (cN c.nodes)), .ext false (.s false 1 c.gates.length (cI c.gates)), .ext false (.s false 2 c.looks.length (cL c.looks)), .ext false (.s false 2 c.eqs.length (cK c.eqs))] Q := by
  refine FnOk.mono (FnOk.eqv (r0 := .o 0) (h0 := [.rowc 63 3 (queV c).length (.fn (cQ (queV c)))]) ?_) (fun r h' hh => by rw [hh.1, hh.2]; exact hq)
  refine FnOk.nil 63 3 (pq1_ok c hc _ (fun h => ?_) (fun h => .inl ⟨rfl, HEs.refl _⟩))
  rw [queV, if_neg h]
  exact .inr ⟨rfl, rfl, rfl, ⟨rfl, rfl, rfl, fun k hk => by simp at hk⟩, trivial⟩
theorem rqq_loop (c : Cir) (h0 : chkC c = 0) (Q : SV → List HO → Prop) (hq : Q (.o 0) [.rowc 63 3 (queV c).length (.fn (cQ (queV c)))]) : ∀ (d k : Nat) (ls : List Nd), k + d = c.eqs.length → ls = c.nodes ++ (c.eqs.take k).map ndK →
    FOk Try.prog Try.f29 Q (.rnd [0,0,1,0,1,1,1,1] (d + 1) :: [.blk 0, .at [1,1,1,1,1]]) ⟨[(4, .v (.int .i64 (k : Int))), (3, .o 0), (1, .p 1 0)], [.rowc 43 7 ls.length (.fn (cN ls)), .cells [.v (.int .i64 c.fx), .v (.int .i64 c.ad), .v (.int .i64 c.ins), .x 2 [], .x 3 [], .x 4 [], .x 5 []] 27, .ext false (.s false 7 c.nodes.length (cN c.nodes)), .ext false (.s false 1 c.gates.length (cI c.gates)), .ext false (.s false 2 c.looks.length (cL c.looks)), .ext false (.s false 2 c.eqs.length (cK c.eqs))]⟩
  | 0, k, ls, hd, he => by
    obtain ⟨h1, _, _, h2⟩ := chkC_len h0
    refine FOk.rnd (run_sound hm 60 ((rqqR c ls ls.length k 0 _ _).mpr ⟨?_⟩))
    rw [cond_dec, if_neg (by omega)]
    rw [show k = c.eqs.length by omega, List.take_length] at he
    have hl : ls.length = c.nodes.length + c.eqs.length := by rw [he, List.length_append, List.length_map]
    refine ⟨ls, rfl, IsC.refl _ _ _, by omega, ?_⟩
    rw [he, queV_eq h0]
    exact hq
  | d + 1, k, ls, hd, he => by
    obtain ⟨h1, _, _, h2⟩ := chkC_len h0
    have hk : k < c.eqs.length := by omega
    have hl : ls.length = c.nodes.length + k := by rw [he, List.length_append, List.length_map, List.length_take]; omega
    refine FOk.rnd (run_sound hm 60 ((rqqR c ls ls.length k (d + 1) _ _).mpr ⟨?_⟩))
    rw [cond_dec, if_pos (by omega), wrap_inc _ (by omega)]
    have next := rqq_loop c h0 Q hq d (k + 1) (ls ++ [ndK (gK c.eqs k)]) (by omega) (by rw [he, take_gK hk, List.map_append, List.append_assoc]; rfl)
    rw [List.length_append, List.length_singleton] at next
    refine And.intro (fun _ => by omega) (And.intro (fun _ => by omega) (And.intro (fun _ => by omega) (And.intro (fun _ => by omega) (And.intro (fun _ => by omega) (And.intro (fun _ => by omega) (And.intro (fun _ => by omega) (?_)))))))
    exact FOk.cv next ⟨⟨rfl, rfl, rfl, cN_snoc (ndK (gK c.eqs k)) _ rfl (by simp [ndCell, ndK, limb_zero])⟩, HE.refl _, HE.refl _, HE.refl _, HE.refl _, HE.refl _, trivial⟩
theorem bRq2 : Try.f29.body.isSome = true := by kernel_rfl
theorem nRq2 (c : Cir) : Nat.ble [(.agg [.v (.int .i64 c.fx), .v (.int .i64 c.ad), .v (.int .i64 c.ins), .x 0 [], .x 1 [], .x 2 [], .x 3 []] : SV)].length Try.f29.ntmps = true := by kernel_rfl
theorem rqq1_ok (c : Cir) (hc : c.ok) (Q : SV → List HO → Prop) (hq1 : chkC c ≠ 0 → Q (.v (.slice none 0 0)) []) (hq : chkC c = 0 → Q (.o 0) [.rowc 63 3 (queV c).length (.fn (cQ (queV c)))]) : FnOk Try.prog 29 [.agg [.v (.int .i64 c.fx), .v (.int .i64 c.ad), .v (.int .i64 c.ins), .x 0 [], .x 1 [], .x 2 [], .x 3 []]] [.ext false (.s false 7 c.nodes.length (cN c.nodes)), .ext false (.s false 1 c.gates.length (cI c.gates)), .ext false (.s false 2 c.looks.length (cL c.looks)), .ext false (.s false 2 c.eqs.length (cK c.eqs))] Q := by
  refine fn_of_ok Try.func29 bRq2 ?_ ?_
  · exact nRq2 c
  refine run_sound hm 60 ((rqqS c _ _).mpr ⟨?_⟩)
  simp only [cond_not, cond_beq]
  refine lC_mk c hc (ite_intro (fun a1 => ?_) (fun a1 => hq1 a1))
  obtain ⟨h1, _, _, h2⟩ := chkC_len a1
  refine And.intro (fun _ => by omega) ?_
  refine FOk.loop (c.eqs.length + 1) (by kernel_rfl) (FOk.cv (rqq_loop c a1 Q (hq a1) c.eqs.length 0 c.nodes (by omega) (by simp)) ⟨⟨rfl, rfl, Nat.zero_add _, fun k hk j hj => appC_ge _ _ _ (Nat.zero_le _)⟩, HE.refl _, HE.refl _, HE.refl _, HE.refl _, HE.refl _, trivial⟩)
theorem rqu_ok (c : Cir) (hc : c.ok) (Q : SV → List HO → Prop) (hq : Q (.o 0) [.rowc 63 3 (queV c).length (.fn (cQ (queV c)))]) : FnOk Try.prog 29 [.agg [.v (.int .i64 c.fx), .v (.int .i64 c.ad), .v (.int .i64 c.ins), .x 0 [], .x 1 [], .x 2 [], .x 3 []]] [.ext false (.s false 7 c.nodes.length (cN c.nodes)), .ext false (.s false 1 c.gates.length (cI c.gates)), .ext false (.s false 2 c.looks.length (cL c.looks)), .ext false (.s false 2 c.eqs.length (cK c.eqs))] Q := by
  refine FnOk.mono (FnOk.eqv (r0 := .o 0) (h0 := [.rowc 63 3 (queV c).length (.fn (cQ (queV c)))]) ?_) (fun r h' hh => by rw [hh.1, hh.2]; exact hq)
  refine FnOk.nil 63 3 (rqq1_ok c hc _ (fun h => ?_) (fun h => .inl ⟨rfl, HEs.refl _⟩))
  rw [queV, if_neg h]
  exact .inr ⟨rfl, rfl, rfl, ⟨rfl, rfl, rfl, fun k hk => by simp at hk⟩, trivial⟩
theorem sc2_loop (c : Cir) (hc : c.ok) (Q : SV → List HO → Prop) (hq : Q (.v (.bool true)) []) : ∀ (d k : Nat), k + d = c.eqs.length →
    FOk Try.prog Try.f30 Q (.rnd [0,0,1,0,1,1,1] (d + 1) :: [.blk 2, .at [1,1,1,1]]) ⟨[(6, .v (.int .i64 (k : Int))), (2, .p 0 0), (3, .p 1 0)], [.cells [.v (.int .i64 c.fx), .v (.int .i64 c.ad), .v (.int .i64 c.ins), .x 2 [], .x 3 [], .x 4 [], .x 5 []] 27, .cells [.v (.int .i64 c.fx), .v (.int .i64 c.ad), .v (.int .i64 c.ins), .x 6 [], .x 7 [], .x 8 [], .x 9 []] 27, .ext false (.s false 7 c.nodes.length (cN c.nodes)), .ext false (.s false 1 c.gates.length (cI c.gates)), .ext false (.s false 2 c.looks.length (cL c.looks)), .ext false (.s false 2 c.eqs.length (cK c.eqs)), .ext false (.s false 7 c.nodes.length (cN c.nodes)), .ext false (.s false 1 c.gates.length (cI c.gates)), .ext false (.s false 2 c.looks.length (cL c.looks)), .ext false (.s false 2 c.eqs.length (cK c.eqs))]⟩
  | 0, k, hd => by
    refine FOk.rnd (run_sound hm 60 ((sc2 c c k 0 _ _).mpr ⟨?_⟩))
    rw [cond_dec, if_neg (by omega)]
    exact hq
  | d + 1, k, hd => by
    have h1 := hc.e.2
    refine FOk.rnd (run_sound hm 60 ((sc2 c c k (d + 1) _ _).mpr ⟨?_⟩))
    rw [cond_dec, if_pos (by omega), wrap_inc _ (by omega), decide_eq_true rfl]
    exact And.intro (fun _ => by omega) (And.intro (fun _ => by omega) (And.intro (fun _ => by omega) (And.intro (fun _ => by omega) (sc2_loop c hc Q hq d (k + 1) (by omega)))))
theorem sc1_loop (c : Cir) (hc : c.ok) (Q : SV → List HO → Prop) (hq : Q (.v (.bool true)) []) : ∀ (d k : Nat), k + d = c.looks.length →
    FOk Try.prog Try.f30 Q (.rnd [0,0,1,0,1,1] (d + 1) :: [.blk 0, .at [1,1,1]]) ⟨[(5, .v (.int .i64 (k : Int))), (2, .p 0 0), (3, .p 1 0)], [.cells [.v (.int .i64 c.fx), .v (.int .i64 c.ad), .v (.int .i64 c.ins), .x 2 [], .x 3 [], .x 4 [], .x 5 []] 27, .cells [.v (.int .i64 c.fx), .v (.int .i64 c.ad), .v (.int .i64 c.ins), .x 6 [], .x 7 [], .x 8 [], .x 9 []] 27, .ext false (.s false 7 c.nodes.length (cN c.nodes)), .ext false (.s false 1 c.gates.length (cI c.gates)), .ext false (.s false 2 c.looks.length (cL c.looks)), .ext false (.s false 2 c.eqs.length (cK c.eqs)), .ext false (.s false 7 c.nodes.length (cN c.nodes)), .ext false (.s false 1 c.gates.length (cI c.gates)), .ext false (.s false 2 c.looks.length (cL c.looks)), .ext false (.s false 2 c.eqs.length (cK c.eqs))]⟩
  | 0, k, hd => by
    refine FOk.rnd (run_sound hm 60 ((sc1 c c k 0 _ _).mpr ⟨?_⟩))
    rw [cond_dec, if_neg (by omega)]
    exact FOk.loop (c.eqs.length + 1) (by kernel_rfl) (sc2_loop c hc Q hq c.eqs.length 0 (by omega))
  | d + 1, k, hd => by
    have h1 := hc.l.2
    have hk : k < c.looks.length := by omega
    obtain ⟨⟨_, g1⟩, ⟨_, g2⟩⟩ := hc.l.1 _ (gL_mem hk)
    refine FOk.rnd (run_sound hm 60 ((sc1 c c k (d + 1) _ _).mpr ⟨?_⟩))
    rw [cond_dec, if_pos (by omega), wrap_inc _ (by omega)]
    refine And.intro (fun _ => by omega) (And.intro (fun _ => by omega) (And.intro (fun _ => by omega) (And.intro (fun _ => by omega) (And.intro (fun _ => by omega) (And.intro (fun _ => by omega) (And.intro (fun _ => by omega) (And.intro (fun _ => by omega) (⟨⟨_, _, rfl, IsC.refl _ _ _, rfl, IsC.refl _ _ _, by omega, ?_⟩⟩))))))))
    rw [decide_eq_true rfl]
    refine And.intro (fun _ => by omega) (And.intro (fun _ => by omega) (And.intro (fun _ => by omega) (And.intro (fun _ => by omega) (And.intro (fun _ => by omega) (And.intro (fun _ => by omega) (And.intro (fun _ => by omega) (And.intro (fun _ => by omega) (⟨⟨_, _, rfl, IsC.refl _ _ _, rfl, IsC.refl _ _ _, by omega, ?_⟩⟩))))))))
    rw [decide_eq_true rfl]
    exact sc1_loop c hc Q hq d (k + 1) (by omega)
theorem bSc : Try.f30.body.isSome = true := by kernel_rfl
theorem nSc (c : Cir) : Nat.ble [(.agg [.v (.int .i64 c.fx), .v (.int .i64 c.ad), .v (.int .i64 c.ins), .x 0 [], .x 1 [], .x 2 [], .x 3 []] : SV), .agg [.v (.int .i64 c.fx), .v (.int .i64 c.ad), .v (.int .i64 c.ins), .x 4 [], .x 5 [], .x 6 [], .x 7 []]].length Try.f30.ntmps = true := by kernel_rfl
theorem scm_ok (c : Cir) (hc : c.ok) (Q : SV → List HO → Prop) (hq : Q (.v (.bool true)) []) : FnOk Try.prog 30 [.agg [.v (.int .i64 c.fx), .v (.int .i64 c.ad), .v (.int .i64 c.ins), .x 0 [], .x 1 [], .x 2 [], .x 3 []], .agg [.v (.int .i64 c.fx), .v (.int .i64 c.ad), .v (.int .i64 c.ins), .x 4 [], .x 5 [], .x 6 [], .x 7 []]] [.ext false (.s false 7 c.nodes.length (cN c.nodes)), .ext false (.s false 1 c.gates.length (cI c.gates)), .ext false (.s false 2 c.looks.length (cL c.looks)), .ext false (.s false 2 c.eqs.length (cK c.eqs)), .ext false (.s false 7 c.nodes.length (cN c.nodes)), .ext false (.s false 1 c.gates.length (cI c.gates)), .ext false (.s false 2 c.looks.length (cL c.looks)), .ext false (.s false 2 c.eqs.length (cK c.eqs))] Q := by
  refine fn_of_ok Try.func30 bSc ?_ ?_
  · exact nSc c
  have h1 := hc.n.2
  have h2 := hc.g.2
  refine run_sound hm 60 ((scS c c _ _).mpr ⟨?_⟩)
  simp only [beq_self_eq_true, Bool.not_true, cond_false]
  refine ⟨c.nodes, rfl, IsC.refl _ _ _, by omega, c.nodes, rfl, IsC.refl _ _ _, fun x hx => (hc.n.1 x hx).1, fun x hx => (hc.n.1 x hx).1, ?_⟩
  rw [decide_eq_true rfl]
  refine ⟨⟨c.gates, c.gates, rfl, IsC.refl _ _ _, rfl, IsC.refl _ _ _, by omega, ?_⟩⟩
  rw [decide_eq_true rfl]
  exact FOk.loop (c.looks.length + 1) (by kernel_rfl) (sc1_loop c hc Q hq c.looks.length 0 (by omega))
noncomputable def gScm : List SV → List HO → Option ((SV → List HO → Prop) → Prop)
  | [.agg [.v (.int .i64 fx), .v (.int .i64 ad), .v (.int .i64 ins), .x 0 [], .x 1 [], .x 2 [], .x 3 []], .agg [.v (.int .i64 gx), .v (.int .i64 bd), .v (.int .i64 jns), .x 4 [], .x 5 [], .x 6 [], .x 7 []]], [.ext false (.s false 7 n0 c0), .ext false (.s false 1 n1 c1), .ext false (.s false 2 n2 c2), .ext false (.s false 2 n3 c3), .ext false (.s false 7 m0 d0), .ext false (.s false 1 m1 d1), .ext false (.s false 2 m2 d2), .ext false (.s false 2 m3 d3)] =>
    some fun Q => lC fx ad ins n0 n1 n2 n3 c0 c1 c2 c3 fun c => lC gx bd jns m0 m1 m2 m3 d0 d1 d2 d3 fun d => d = c ∧ Q (.v (.bool true)) []
  | _, _ => none
theorem gScm_ok (args : List SV) (h : List HO) (tr : (SV → List HO → Prop) → Prop) (Q : SV → List HO → Prop) (hc : gScm args h = some tr) (ht : tr Q) : FnOk Try.prog 30 args h Q := by
  unfold gScm at hc
  split at hc
  · simp only [Option.some.injEq] at hc
    subst hc
    obtain ⟨c, rfl, rfl, rfl, ⟨rfl, e0⟩, ⟨rfl, e1⟩, ⟨rfl, e2⟩, ⟨rfl, e3⟩, hk, ht2⟩ := ht.h
    obtain ⟨d, rfl, rfl, rfl, ⟨rfl, e4⟩, ⟨rfl, e5⟩, ⟨rfl, e6⟩, ⟨rfl, e7⟩, hk2, rfl, hq⟩ := ht2.h
    exact FnOk.ac (scm_ok _ hk Q hq) ⟨⟨rfl, rfl, rfl, rfl, e0⟩, ⟨rfl, rfl, rfl, rfl, e1⟩, ⟨rfl, rfl, rfl, rfl, e2⟩, ⟨rfl, rfl, rfl, rfl, e3⟩, ⟨rfl, rfl, rfl, rfl, e4⟩, ⟨rfl, rfl, rfl, rfl, e5⟩, ⟨rfl, rfl, rfl, rfl, e6⟩, ⟨rfl, rfl, rfl, rfl, e7⟩, trivial⟩
  · cases hc
noncomputable def gPqu : List SV → List HO → Option ((SV → List HO → Prop) → Prop)
  | [.agg [.v (.int .i64 fx), .v (.int .i64 ad), .v (.int .i64 ins), .x 0 [], .x 1 [], .x 2 [], .x 3 []]], [.ext false (.s false 7 n0 c0), .ext false (.s false 1 n1 c1), .ext false (.s false 2 n2 c2), .ext false (.s false 2 n3 c3)] =>
    some fun Q => lC fx ad ins n0 n1 n2 n3 c0 c1 c2 c3 fun c => Q (.o 0) [.rowc 63 3 (queV c).length (.fn (cQ (queV c)))]
  | _, _ => none
theorem gPqu_ok (args : List SV) (h : List HO) (tr : (SV → List HO → Prop) → Prop) (Q : SV → List HO → Prop) (hc : gPqu args h = some tr) (ht : tr Q) : FnOk Try.prog 28 args h Q := by
  unfold gPqu at hc
  split at hc
  · simp only [Option.some.injEq] at hc
    subst hc
    obtain ⟨c, rfl, rfl, rfl, ⟨rfl, e0⟩, ⟨rfl, e1⟩, ⟨rfl, e2⟩, ⟨rfl, e3⟩, hk, hq⟩ := ht.h
    exact FnOk.ac (pqu_ok c hk Q hq) ⟨⟨rfl, rfl, rfl, rfl, e0⟩, ⟨rfl, rfl, rfl, rfl, e1⟩, ⟨rfl, rfl, rfl, rfl, e2⟩, ⟨rfl, rfl, rfl, rfl, e3⟩, trivial⟩
  · cases hc
noncomputable def gRqu : List SV → List HO → Option ((SV → List HO → Prop) → Prop)
  | [.agg [.v (.int .i64 fx), .v (.int .i64 ad), .v (.int .i64 ins), .x 0 [], .x 1 [], .x 2 [], .x 3 []]], [.ext false (.s false 7 n0 c0), .ext false (.s false 1 n1 c1), .ext false (.s false 2 n2 c2), .ext false (.s false 2 n3 c3)] =>
    some fun Q => lC fx ad ins n0 n1 n2 n3 c0 c1 c2 c3 fun c => Q (.o 0) [.rowc 63 3 (queV c).length (.fn (cQ (queV c)))]
  | _, _ => none
theorem gRqu_ok (args : List SV) (h : List HO) (tr : (SV → List HO → Prop) → Prop) (Q : SV → List HO → Prop) (hc : gRqu args h = some tr) (ht : tr Q) : FnOk Try.prog 29 args h Q := by
  unfold gRqu at hc
  split at hc
  · simp only [Option.some.injEq] at hc
    subst hc
    obtain ⟨c, rfl, rfl, rfl, ⟨rfl, e0⟩, ⟨rfl, e1⟩, ⟨rfl, e2⟩, ⟨rfl, e3⟩, hk, hq⟩ := ht.h
    exact FnOk.ac (rqu_ok c hk Q hq) ⟨⟨rfl, rfl, rfl, rfl, e0⟩, ⟨rfl, rfl, rfl, rfl, e1⟩, ⟨rfl, rfl, rfl, rfl, e2⟩, ⟨rfl, rfl, rfl, rfl, e3⟩, trivial⟩
  · cases hc
noncomputable def K61 : Con Try.prog := ((K59.add 28 gPqu gPqu_ok).add 29 gRqu gRqu_ok).add 30 gScm gScm_ok
end Go.Proofs.Ytpghmnpbfaichaa
/- CircuitChecks and CircuitDegree: the walks. -/
namespace Go.Pl
open Go.Sx
theorem gtF_le {dg : List Int} {B : Int} : ∀ (l : List Int) (m : Int), l.foldl (fun m g => if m < gI dg g.toNat then gI dg g.toNat else m) m ≤ B ↔ m ≤ B ∧ ∀ g ∈ l, gI dg g.toNat ≤ B
  | [], m => by simp
  | x :: r, m => by
    rw [List.foldl_cons, gtF_le r, List.forall_mem_cons]
    constructor
    · rintro ⟨h1, h2⟩
      split at h1
      · exact ⟨by omega, h1, h2⟩
      · exact ⟨h1, by omega, h2⟩
    · rintro ⟨h1, h2, h3⟩
      refine ⟨?_, h3⟩
      split
      · exact h2
      · exact h1
theorem gtN_le {dg l : List Int} {B : Int} : gtN dg l ≤ B ↔ 0 ≤ B ∧ ∀ g ∈ l, gI dg g.toNat ≤ B := gtF_le l 0
theorem mxI_le {a b B : Int} : mxI a b ≤ B ↔ a ≤ B ∧ b ≤ B := by
  rw [mxI]; split <;> omega
theorem dgF_le {dg : List Int} {B : Int} : ∀ (l : List (List Int × List Int)) (m : Int), l.foldl (fun d l => mxI d (2 + gtN dg l.1 + gtN dg l.2)) m ≤ B ↔ m ≤ B ∧ ∀ x ∈ l, 2 + gtN dg x.1 + gtN dg x.2 ≤ B
  | [], m => by simp
  | x :: r, m => by
    rw [List.foldl_cons, dgF_le r, List.forall_mem_cons, mxI_le, and_assoc]
theorem degP_le {c : Cir} {dg : List Int} {B : Int} : degP c dg ≤ B ↔ (baseN c ≤ B ∧ gtN dg c.gates + 1 ≤ B) ∧ ∀ x ∈ c.looks, 2 + gtN dg x.1 + gtN dg x.2 ≤ B := by
  rw [degP, dgF_le, mxI_le]
end Go.Pl
namespace Go.Proofs.Ytpghmnpbfaichaa
open Go.Sx Go.Pl
set_option linter.unusedVariables false
set_option maxRecDepth 100000
theorem ckS (c : Cir) (K : List It → St → Prop) (R : SV → List HO → Prop) : W (xwp Try.prog X K61 [(20, [])] 60 (fxOf Try.f6 [] []) [] [.at []] ⟨argsS 0 [.agg [.v (.int .i64 c.fx), .v (.int .i64 c.ad), .v (.int .i64 c.ins), .x 0 [], .x 1 [], .x 2 [], .x 3 []]], [.ext false (.s false 7 c.nodes.length (cN c.nodes)), .ext false (.s false 1 c.gates.length (cI c.gates)), .ext false (.s false 2 c.looks.length (cL c.looks)), .ext false (.s false 2 c.eqs.length (cK c.eqs))]⟩ K R) = W (lC c.1 c.2 c.3 (List.length c.4) (List.length c.5) (List.length c.6) (List.length c.7) (cN c.4) (cI c.5) (cL c.6) (cK c.7) fun (c_1 : Cir) => bif greatB c_1 then R (SV.v (Value.bool true)) [] else lC c.1 c.2 c.3 (List.length c.4) (List.length c.5) (List.length c.6) (List.length c.7) (cN c.4) (cI c.5) (cL c.6) (cK c.7) fun (c_2 : Cir) => (∀ (M : Mem), 0 + 7 ≤ 7) ∧ lC c_2.1 c_2.2 c_2.3 (List.length c_2.4) (List.length c_2.5) (List.length c_2.6) (List.length c_2.7) (cN c_2.4) (cI c_2.5) (cL c_2.6) (cK c_2.7) fun (c_3 : Cir) => lC c.1 c.2 c.3 (List.length c.4) (List.length c.5) (List.length c.6) (List.length c.7) (cN c.4) (cI c.5) (cL c.6) (cK c.7) fun (c_4 : Cir) => lC c_2.1 c_2.2 c_2.3 (List.length c_2.4) (List.length c_2.5) (List.length c_2.6) (List.length c_2.7) (cN c_2.4) (cI c_2.5) (cL c_2.6) (cK c_2.7) fun (c_5 : Cir) => lC c.1 c.2 c.3 (List.length c.4) (List.length c.5) (List.length c.6) (List.length c.7) (cN c.4) (cI c.5) (cL c.6) (cK c.7) fun (c_6 : Cir) => bif chkC c_5 == chkC c_6 then bif degV c_3 == degV c_4 then bif chkC c_3 == chkC c_4 then lC c_2.1 c_2.2 c_2.3 (List.length c_2.4) (List.length c_2.5) (List.length c_2.6) (List.length c_2.7) (cN c_2.4) (cI c_2.5) (cL c_2.6) (cK c_2.7) fun (c_7 : Cir) => lC c.1 c.2 c.3 (List.length c.4) (List.length c.5) (List.length c.6) (List.length c.7) (cN c.4) (cI c.5) (cL c.6) (cK c.7) fun (c_8 : Cir) => lQ2 (List.length (queV c_7)) (List.length (queV c_8)) (cQ (queV c_7)) (cQ (queV c_8)) fun (l l2 : List (Int × Int × Int)) => bif decide (l = l2) then lC c_2.1 c_2.2 c_2.3 (List.length c_2.4) (List.length c_2.5) (List.length c_2.6) (List.length c_2.7) (cN c_2.4) (cI c_2.5) (cL c_2.6) (cK c_2.7) fun (c_9 : Cir) => lC c.1 c.2 c.3 (List.length c.4) (List.length c.5) (List.length c.6) (List.length c.7) (cN c.4) (cI c.5) (cL c.6) (cK c.7) fun (d : Cir) => d = c_9 ∧ R (SV.v (Value.bool true)) [] else R (SV.v (Value.bool false)) [] else R (SV.v (Value.bool false)) [] else R (SV.v (Value.bool false)) [] else R (SV.v (Value.bool false)) []) := by kernel_rfl
theorem cdS (c : Cir) (K : List It → St → Prop) (R : SV → List HO → Prop) : W (xwp Try.prog X K61 [] 60 (fxOf Try.f5 [] [⟨[0,1,0,1,1,1,1,1,1], [6,5,3,1], []⟩]) [] [.at []] ⟨argsS 0 [.agg [.v (.int .i64 c.fx), .v (.int .i64 c.ad), .v (.int .i64 c.ins), .x 0 [], .x 1 [], .x 2 [], .x 3 []]], [.ext false (.s false 7 c.nodes.length (cN c.nodes)), .ext false (.s false 1 c.gates.length (cI c.gates)), .ext false (.s false 2 c.looks.length (cL c.looks)), .ext false (.s false 2 c.eqs.length (cK c.eqs))]⟩ K R) = W (lC c.1 c.2 c.3 (List.length c.4) (List.length c.5) (List.length c.6) (List.length c.7) (cN c.4) (cI c.5) (cL c.6) (cK c.7) fun (c_1 : Cir) => bif greatB c_1 then R (SV.v (Value.bool true)) [] else lC c.1 c.2 c.3 (List.length c.4) (List.length c.5) (List.length c.6) (List.length c.7) (cN c.4) (cI c.5) (cL c.6) (cK c.7) fun (c_2 : Cir) => lC c_2.1 c_2.2 c_2.3 (List.length c_2.4) (List.length c_2.5) (List.length c_2.6) (List.length c_2.7) (cN c_2.4) (cI c_2.5) (cL c_2.6) (cK c_2.7) fun (c_3 : Cir) => bif !chkC c_3 == (0 : Int) then bif degV c_3 == (0 : Int) then bif chkC c_3 == (110 : Int) then R (SV.v (Value.bool true)) [] else R (SV.v (Value.bool (chkC c_3 == (120 : Int)))) [] else R (SV.v (Value.bool false)) [] else ∃ (l : List Nd), List.length c.4 = List.length l ∧ IsC (List.length c.4) 7 (cN c.4) (cN l) ∧ List.length l ≤ 2513169434916 ∧ ∃ (l_1 : List Nd), List.length l = List.length l_1 ∧ IsC (List.length l) 7 (cN l) (cN l_1) ∧ List.length l_1 ≤ 4398046511104 ∧ K [It.at [0, 1, 0, 1, 1, 1, 1, 1, 1], It.blk 0, It.at [1, 1, 1, 1, 1, 1, 1]] (St.mk [(6, SV.v (vi64 (0 : Int))), (5, SV.o 0), (3, SV.v (vi64 (degV c_3))), (1, SV.p 1 0)] [HO.rowc 3 1 (List.length (degrees l_1)) (Ct.fn (cI (degrees l_1))), HO.cells [SV.v (vi64 c.1), SV.v (vi64 c.2), SV.v (vi64 c.3), SV.x 2 [], SV.x 3 [], SV.x 4 [], SV.x 5 []] 27, HO.ext false (Cell.s false 7 (List.length c.4) (cN c.4)), HO.ext false (Cell.s false 1 (List.length c.5) (cI c.5)), HO.ext false (Cell.s false 2 (List.length c.6) (cL c.6)), HO.ext false (Cell.s false 2 (List.length c.7) (cK c.7))])) := by kernel_rfl
theorem cd1 (c : Cir) (dg : List Int) (d : Int) (k M : Nat) (K : List It → St → Prop) (R : SV → List HO → Prop) : W (xwp Try.prog X K61 [] 60 (fxOf Try.f5 [] [⟨[0,1,0,1,1,1,1,1,1], [6,5,3,1], []⟩]) [] (.at [0,0,1,0,1,1,1,1,1,1] :: .rnd [0,0,1,0,1,1,1,1,1,1] M :: [.blk 0, .at [1,1,1,1,1,1,1]]) ⟨[(6, .v (.int .i64 (k : Int))), (5, .o 0), (3, .v (.int .i64 d)), (1, .p 1 0)], [.rowc 3 1 dg.length (.fn (cI dg)), .cells [.v (.int .i64 c.fx), .v (.int .i64 c.ad), .v (.int .i64 c.ins), .x 2 [], .x 3 [], .x 4 [], .x 5 []] 27, .ext false (.s false 7 c.nodes.length (cN c.nodes)), .ext false (.s false 1 c.gates.length (cI c.gates)), .ext false (.s false 2 c.looks.length (cL c.looks)), .ext false (.s false 2 c.eqs.length (cK c.eqs))]⟩ K R) = W (bif decide ((↑k : Int) < (↑(List.length c.5) : Int)) then (∀ (M : Mem), (0 : Int) ≤ (↑k : Int) ∧ (↑k : Int) < (↑(List.length c.5) : Int)) ∧ (∀ (M : Mem), k < List.length c.5) ∧ (∀ (M : Mem), (0 : Int) ≤ gI c.5 k ∧ gI c.5 k < (↑(List.length dg) : Int)) ∧ (∀ (M : Mem), Int.toNat (gI c.5 k) < List.length dg) ∧ bif decide (d ≤ gI dg (Int.toNat (gI c.5 k))) then R (SV.v (Value.bool false)) [] else K [It.rnd [0, 0, 1, 0, 1, 1, 1, 1, 1, 1] M, It.blk 0, It.at [1, 1, 1, 1, 1, 1, 1]] (St.mk [(6, SV.v (vi64 (IntKind.wrap IntKind.i64 ((↑k : Int) + (1 : Int))))), (5, SV.o 0), (3, SV.v (vi64 d)), (1, SV.p 1 0)] [HO.rowc 3 1 (List.length dg) (Ct.fn (cI dg)), HO.cells [SV.v (vi64 c.1), SV.v (vi64 c.2), SV.v (vi64 c.3), SV.x 2 [], SV.x 3 [], SV.x 4 [], SV.x 5 []] 27, HO.ext false (Cell.s false 7 (List.length c.4) (cN c.4)), HO.ext false (Cell.s false 1 (List.length c.5) (cI c.5)), HO.ext false (Cell.s false 2 (List.length c.6) (cL c.6)), HO.ext false (Cell.s false 2 (List.length c.7) (cK c.7))]) else bif decide ((3 : Int) ≤ d) then bif decide (d ≤ (8 : Int)) then bif decide ((4 : Int) ≤ d) then R (SV.v (Value.bool true)) [] else bif (↑(List.length c.6) : Int) == (0 : Int) then R (SV.v (Value.bool ((↑(List.length c.7) : Int) == (0 : Int)))) [] else R (SV.v (Value.bool false)) [] else R (SV.v (Value.bool false)) [] else R (SV.v (Value.bool false)) []) := by kernel_rfl
theorem bCk : Try.f6.body.isSome = true := by kernel_rfl
theorem nCk (c : Cir) : Nat.ble [(.agg [.v (.int .i64 c.fx), .v (.int .i64 c.ad), .v (.int .i64 c.ins), .x 0 [], .x 1 [], .x 2 [], .x 3 []] : SV)].length Try.f6.ntmps = true := by kernel_rfl
theorem cchecks_ok (c : Cir) (hc : c.ok) (Q : SV → List HO → Prop) (hq : Q (.v (.bool true)) []) : FnOk Try.prog 6 [.agg [.v (.int .i64 c.fx), .v (.int .i64 c.ad), .v (.int .i64 c.ins), .x 0 [], .x 1 [], .x 2 [], .x 3 []]] [.ext false (.s false 7 c.nodes.length (cN c.nodes)), .ext false (.s false 1 c.gates.length (cI c.gates)), .ext false (.s false 2 c.looks.length (cL c.looks)), .ext false (.s false 2 c.eqs.length (cK c.eqs))] Q := by
  refine fn_of_ok Try.func6 bCk ?_ ?_
  · exact nCk c
  refine run_sound hm 60 ((ckS c _ _).mpr ⟨?_⟩)
  refine lC_mk c hc ?_
  cases greatB c with
  | true => exact hq
  | false =>
    have hl := queV_len c
    refine lC_mk c hc (And.intro (fun _ => by omega) (lC_mk c hc (lC_mk c hc (lC_mk c hc (lC_mk c hc ?_)))))
    simp only [beq_self_eq_true, cond_true]
    refine lC_mk c hc (lC_mk c hc ⟨⟨_, _, rfl, IsC.refl _ _ _, rfl, IsC.refl _ _ _, by omega, ?_⟩⟩)
    rw [decide_eq_true rfl]
    exact lC_mk c hc (lC_mk c hc ⟨rfl, hq⟩)
theorem cd_loop (c : Cir) (hc : c.ok) (h0 : chkC c = 0) (Q : SV → List HO → Prop) (hq : Q (.v (.bool true)) []) : ∀ (d k : Nat), k + d = c.gates.length →
    FOk Try.prog Try.f5 Q (.rnd [0,0,1,0,1,1,1,1,1,1] (d + 1) :: [.blk 0, .at [1,1,1,1,1,1,1]]) ⟨[(6, .v (.int .i64 (k : Int))), (5, .o 0), (3, .v (.int .i64 (degP c (degrees c.nodes)))), (1, .p 1 0)], [.rowc 3 1 (degrees c.nodes).length (.fn (cI (degrees c.nodes))), .cells [.v (.int .i64 c.fx), .v (.int .i64 c.ad), .v (.int .i64 c.ins), .x 2 [], .x 3 [], .x 4 [], .x 5 []] 27, .ext false (.s false 7 c.nodes.length (cN c.nodes)), .ext false (.s false 1 c.gates.length (cI c.gates)), .ext false (.s false 2 c.looks.length (cL c.looks)), .ext false (.s false 2 c.eqs.length (cK c.eqs))]⟩
  | 0, k, hd => by
    obtain ⟨_, hg⟩ := chkC_zero h0
    have h8 := (goodB_all hg).2.2.2.2
    obtain ⟨⟨hb, _⟩, _⟩ := degP_le.1 (Int.le_refl (degP c (degrees c.nodes)))
    refine FOk.rnd (run_sound hm 60 ((cd1 c (degrees c.nodes) (degP c (degrees c.nodes)) k 0 _ _).mpr ⟨?_⟩))
    rw [cond_dec, if_neg (by omega)]
    simp only [cond_dec, cond_beq]
    rw [baseN] at hb
    refine ite_intro (fun a1 => ite_intro (fun a2 => ite_intro (fun a3 => hq) (fun a3 => ?_)) (fun a2 => absurd h8 a2)) (fun a1 => absurd hb (by split <;> omega))
    have hz : ¬ 0 < c.looks.length + c.eqs.length := fun h => by rw [if_pos h] at hb; omega
    refine ite_intro (fun a4 => ?_) (fun a4 => absurd (show (c.looks.length : Int) = 0 by omega) a4)
    rw [show c.eqs.length = 0 by omega]
    exact hq
  | d + 1, k, hd => by
    have hk : k < c.gates.length := by omega
    obtain ⟨_, hg⟩ := chkC_zero h0
    have hl := chkC_len h0
    obtain ⟨e0, _⟩ := chkC_zero h0
    obtain ⟨_, g1, g2, _, _⟩ := goodB_all hg
    have hin := (degOk_of e0 g1 g2).g (gI c.gates k) (gI_mem hk)
    obtain ⟨⟨_, hb⟩, _⟩ := degP_le.1 (Int.le_refl (degP c (degrees c.nodes)))
    have h5 := (gtN_le.1 (Int.le_refl (gtN (degrees c.nodes) c.gates))).2 (gI c.gates k) (gI_mem hk)
    refine FOk.rnd (run_sound hm 60 ((cd1 c (degrees c.nodes) (degP c (degrees c.nodes)) k (d + 1) _ _).mpr ⟨?_⟩))
    rw [cond_dec, if_pos (by omega), wrap_inc _ (by omega)]
    refine And.intro (fun _ => by omega) (And.intro (fun _ => by omega) (And.intro (fun _ => by omega) (And.intro (fun _ => by omega) (?_))))
    rw [cond_dec, if_neg (by omega)]
    exact cd_loop c hc h0 Q hq d (k + 1) (by omega)
theorem bCd : Try.f5.body.isSome = true := by kernel_rfl
theorem nCd (c : Cir) : Nat.ble [(.agg [.v (.int .i64 c.fx), .v (.int .i64 c.ad), .v (.int .i64 c.ins), .x 0 [], .x 1 [], .x 2 [], .x 3 []] : SV)].length Try.f5.ntmps = true := by kernel_rfl
theorem cdegree_ok (c : Cir) (hc : c.ok) (Q : SV → List HO → Prop) (hq : Q (.v (.bool true)) []) : FnOk Try.prog 5 [.agg [.v (.int .i64 c.fx), .v (.int .i64 c.ad), .v (.int .i64 c.ins), .x 0 [], .x 1 [], .x 2 [], .x 3 []]] [.ext false (.s false 7 c.nodes.length (cN c.nodes)), .ext false (.s false 1 c.gates.length (cI c.gates)), .ext false (.s false 2 c.looks.length (cL c.looks)), .ext false (.s false 2 c.eqs.length (cK c.eqs))] Q := by
  refine fn_of_ok Try.func5 bCd ?_ ?_
  · exact nCd c
  refine run_sound hm 60 ((cdS c _ _).mpr ⟨?_⟩)
  refine lC_mk c hc ?_
  cases greatB c with
  | true => exact hq
  | false =>
    rw [cond_false]
    refine lC_mk c hc (lC_mk c hc ?_)
    simp only [cond_not, cond_beq]
    refine ite_intro (fun a1 => ?_) (fun a1 => ?_)
    · have hl := chkC_len a1
      refine ⟨c.nodes, rfl, IsC.refl _ _ _, by omega, c.nodes, rfl, IsC.refl _ _ _, by omega, ?_⟩
      rw [degV, if_pos a1]
      exact FOk.loop (c.gates.length + 1) (by kernel_rfl) (cd_loop c hc a1 Q hq c.gates.length 0 (by omega))
    · refine ite_intro (fun a2 => ite_intro (fun a3 => hq) (fun a3 => ?_)) (fun a2 => absurd (by rw [degV, if_neg a1]) a2)
      have e : chkC c = 120 := by
        have hv : chkN c.nodes c.fx c.ad c.ins = 0 ∨ chkN c.nodes c.fx c.ad c.ins = 110 := by
          rw [chkN]
          split
          · exact .inr rfl
          · exact .inl rfl
        rcases hv with h | h
        · cases hg : goodB c with
          | true => exact absurd (by rw [chkC, if_pos h, hg]; rfl) a1
          | false => rw [chkC, if_pos h, hg]; rfl
        · exact absurd (by rw [chkC, if_neg (by rw [h]; decide), h]) a3
      rw [e]
      exact hq
end Go.Proofs.Ytpghmnpbfaichaa
/- CircuitLess: the law and the walk. -/
namespace Go.Pl
open Go.Sx
/-- A circuit with a gate, a lookup and a copied column less. -/
def lessC (c : Cir) : Cir := ⟨c.fx, c.ad, c.ins, c.nodes, c.gates.tail, c.looks.tail, c.eqs.tail⟩
theorem lC_of (d : Cir) (hd : d.ok) {fx ad ins : Int} {n0 n1 n2 n3 : Nat} {c0 c1 c2 c3 : Nat → Nat → Cell} {k : Cir → Prop} (a1 : fx = d.fx) (a2 : ad = d.ad) (a3 : ins = d.ins) (h0 : n0 = d.nodes.length ∧ IsC n0 7 c0 (cN d.nodes)) (h1 : n1 = d.gates.length ∧ IsC n1 1 c1 (cI d.gates)) (h2 : n2 = d.looks.length ∧ IsC n2 2 c2 (cL d.looks)) (h3 : n3 = d.eqs.length ∧ IsC n3 2 c3 (cK d.eqs)) (h : k d) : lC fx ad ins n0 n1 n2 n3 c0 c1 c2 c3 k :=
  ⟨⟨d, a1, a2, a3, h0, h1, h2, h3, hd, h⟩⟩
theorem getD_tail {α : Type} (l : List α) (k : Nat) (z : α) : l.tail.getD k z = l.getD (k + 1) z := by
  cases l <;> simp [List.getD_eq_getElem?_getD]
theorem tlI (l : List Int) : l.length - 1 = l.tail.length ∧ IsC (l.length - 1) 1 (fun k j => cI l (k + 1) j) (cI l.tail) := by
  refine ⟨by rw [List.length_tail], fun k _ j _ => ?_⟩
  show _ = Cell.v (.int .i64 (gI l.tail k))
  rw [gI, getD_tail]; rfl
theorem tlL (l : List (List Int × List Int)) : l.length - 1 = l.tail.length ∧ IsC (l.length - 1) 2 (fun k j => cL l (k + 1) j) (cL l.tail) := by
  refine ⟨by rw [List.length_tail], fun k _ j _ => ?_⟩
  have e : gL l.tail k = gL l (k + 1) := by rw [gL, getD_tail]; rfl
  simp only [cL]
  exact congrArg (fun y => lCell y j) e.symm
theorem tlK (l : List (Int × Int)) : l.length - 1 = l.tail.length ∧ IsC (l.length - 1) 2 (fun k j => cK l (k + 1) j) (cK l.tail) := by
  refine ⟨by rw [List.length_tail], fun k _ j _ => ?_⟩
  have e : gK l.tail k = gK l (k + 1) := by rw [gK, getD_tail]; rfl
  simp only [cK]
  exact congrArg (fun y => kCell y j) e.symm
theorem noT {α : Type} {l : List α} (h : ¬ 0 < l.length) : l = l.tail := by
  cases l with
  | nil => rfl
  | cons x r => exact absurd (Nat.zero_lt_succ _) h
theorem noI {l : List Int} (h : ¬ 0 < l.length) : l.length = l.tail.length ∧ IsC l.length 1 (cI l) (cI l.tail) := by
  rw [← noT h]; exact ⟨rfl, IsC.refl _ _ _⟩
theorem noL {l : List (List Int × List Int)} (h : ¬ 0 < l.length) : l.length = l.tail.length ∧ IsC l.length 2 (cL l) (cL l.tail) := by
  rw [← noT h]; exact ⟨rfl, IsC.refl _ _ _⟩
theorem noK {l : List (Int × Int)} (h : ¬ 0 < l.length) : l.length = l.tail.length ∧ IsC l.length 2 (cK l) (cK l.tail) := by
  rw [← noT h]; exact ⟨rfl, IsC.refl _ _ _⟩
theorem mem_tl {α : Type} {l : List α} {x : α} (h : x ∈ l.tail) : x ∈ l := List.mem_of_mem_tail h
theorem lessC_ok {c : Cir} (h : c.ok) : (lessC c).ok where
  f := h.f
  a := h.a
  i := h.i
  n := h.n
  g := by
    refine ⟨fun x hx => h.g.1 x (mem_tl hx), ?_⟩
    have := h.g.2
    simp only [lessC, List.length_tail]; omega
  l := by
    refine ⟨fun x hx => h.l.1 x (mem_tl hx), ?_⟩
    have := h.l.2
    simp only [lessC, List.length_tail]; omega
  e := by
    refine ⟨fun x hx => h.e.1 x (mem_tl hx), ?_⟩
    have := h.e.2
    simp only [lessC, List.length_tail]; omega
theorem eqF_sub {c : Cir} : ∀ (l s s' : List (Int × Int)), (∀ x ∈ s', x ∈ s) → eqF c s l = true → eqF (lessC c) s' l = true
  | [], _, _, _, _ => rfl
  | y :: r, s, s', hs, h => by
    rw [eqF, Bool.and_eq_true, Bool.and_eq_true] at h ⊢
    obtain ⟨⟨h1, h2⟩, h3⟩ := h
    refine ⟨⟨h1, ?_⟩, eqF_sub r _ _ (fun x hx => ?_) h3⟩
    · rw [Bool.not_eq_true', decide_eq_false_iff_not] at h2 ⊢
      exact fun hh => h2 (hs y hh)
    · rcases List.mem_append.1 hx with hx | hx
      · exact List.mem_append_left _ (hs x hx)
      · exact List.mem_append_right _ hx
theorem eqF_less {c : Cir} (h : eqF c [] c.eqs = true) : eqF (lessC c) [] c.eqs.tail = true := by
  cases e : c.eqs with
  | nil => rfl
  | cons y r =>
    rw [e, eqF, Bool.and_eq_true] at h
    exact eqF_sub r _ _ (fun x hx => by cases hx) h.2
theorem any_tl {α : Type} {p : α → Bool} {l : List α} (h : l.any p = false) : l.tail.any p = false := by
  cases l with
  | nil => rfl
  | cons x r => rw [List.any_cons, Bool.or_eq_false_iff] at h; exact h.2
theorem degP_less (c : Cir) (dg : List Int) : degP (lessC c) dg ≤ degP c dg := by
  obtain ⟨⟨h1, h2⟩, h3⟩ := degP_le.1 (Int.le_refl (degP c dg))
  refine degP_le.2 ⟨⟨?_, ?_⟩, fun x hx => h3 x (mem_tl hx)⟩
  · refine Int.le_trans ?_ h1
    simp only [baseN, lessC, List.length_tail]
    split <;> split <;> omega
  · have a := gtN_le.1 (Int.le_refl (gtN dg c.gates))
    have b : gtN dg c.gates.tail ≤ gtN dg c.gates := gtN_le.2 ⟨a.1, fun g hg => a.2 g (mem_tl hg)⟩
    show gtN dg c.gates.tail + 1 ≤ _
    omega
theorem chkC_less {c : Cir} (h : chkC c = 0) : chkC (lessC c) = 0 := by
  obtain ⟨h0, hg⟩ := chkC_zero h
  obtain ⟨g1, g2, g3, g4, g5⟩ := goodB_all hg
  have g6 : cntOk c := of_decide_eq_true g1
  have e1 : cntB (lessC c) = true := decide_eq_true ⟨g6.1, g6.2.1, g6.2.2.1, g6.2.2.2.1, by
    obtain ⟨a, b, d⟩ := g6.2.2.2.2
    simp only [lessC, List.length_tail]
    exact ⟨by omega, by omega, by omega⟩⟩
  have e2 : (lessC c).gates.any (fun n => !placeB (lessC c) n) = false := any_tl g2
  have e3 : (lessC c).looks.any (fun x => !lookB (lessC c) x) = false := any_tl g3
  have e4 : eqF (lessC c) [] (lessC c).eqs = true := eqF_less g4
  have e5 : degP (lessC c) (degrees (lessC c).nodes) ≤ 8 := Int.le_trans (degP_less c _) g5
  have e : goodB (lessC c) = true := by
    rw [goodB, e1, e2, e3, e4, decide_eq_true e5]; rfl
  rw [chkC, if_pos (show chkN (lessC c).nodes (lessC c).fx (lessC c).ad (lessC c).ins = 0 from h0), e]; rfl
theorem degV_less {c : Cir} (h : chkC c = 0) : degV (lessC c) ≤ degV c := by
  rw [degV, degV, if_pos h, if_pos (chkC_less h)]
  exact degP_less c _
theorem addQ_old {out : List (Int × Int × Int)} {x : Int × Int} (h : (x.1, x.2, (0 : Int)) ∈ out) : addQ out x = out := if_pos h
theorem addQ_new {out : List (Int × Int × Int)} {x : Int × Int} (h : (x.1, x.2, (0 : Int)) ∉ out) : addQ out x = out ++ [(x.1, x.2, 0)] := if_neg h
theorem fold0 : ∀ (r : List (Int × Int)) (o o' : List (Int × Int × Int)), (∀ q, q ∈ o' ↔ q ∈ o) → o.length = o'.length → (r.foldl addQ o).length = (r.foldl addQ o').length
  | [], _, _, _, h => h
  | z :: r, o, o', hm, h => by
    rw [List.foldl_cons, List.foldl_cons]
    by_cases hz : (z.1, z.2, (0 : Int)) ∈ o
    · rw [addQ_old hz, addQ_old ((hm _).2 hz)]
      exact fold0 r o o' hm h
    · rw [addQ_new hz, addQ_new (fun hh => hz ((hm _).1 hh))]
      refine fold0 r _ _ (fun q => ?_) (by simp [h])
      rw [List.mem_append, List.mem_append, hm]
theorem fold1 (y : Int × Int × Int) : ∀ (r : List (Int × Int)) (o o' : List (Int × Int × Int)), (∀ q, q ∈ o' ↔ q ∈ o ∨ q = y) → y ∉ o → o.length + 1 = o'.length → (r.foldl addQ o).length ≤ (r.foldl addQ o').length
  | [], o, o', _, _, h => by
    rw [List.foldl_nil, List.foldl_nil]; omega
  | z :: r, o, o', hm, hy, h => by
    rw [List.foldl_cons, List.foldl_cons]
    by_cases hz : (z.1, z.2, (0 : Int)) ∈ o
    · rw [addQ_old hz, addQ_old ((hm _).2 (.inl hz))]
      exact fold1 y r o o' hm hy h
    · rw [addQ_new hz]
      by_cases e : (z.1, z.2, (0 : Int)) = y
      · rw [addQ_old ((hm _).2 (.inr e))]
        refine Nat.le_of_eq (fold0 r _ _ (fun q => ?_) (by rw [List.length_append, List.length_singleton]; omega))
        rw [List.mem_append, hm, List.mem_singleton, e]
      · rw [addQ_new (fun hh => ((hm _).1 hh).elim hz e)]
        refine fold1 y r _ _ (fun q => ?_) (fun hh => ?_) (by simp only [List.length_append, List.length_singleton]; omega)
        · rw [List.mem_append, List.mem_append, hm]
          constructor
          · rintro ((h1 | h1) | h1)
            · exact .inl (.inl h1)
            · exact .inr h1
            · exact .inl (.inr h1)
          · rintro ((h1 | h1) | h1)
            · exact .inl (.inl h1)
            · exact .inr h1
            · exact .inl (.inr h1)
        · rcases List.mem_append.1 hh with hh | hh
          · exact hy hh
          · exact e (List.mem_singleton.1 hh).symm
theorem fold_tl (l : List (Int × Int)) (o : List (Int × Int × Int)) : (l.tail.foldl addQ o).length ≤ (l.foldl addQ o).length := by
  cases l with
  | nil => exact Nat.le_refl _
  | cons x r =>
    rw [List.foldl_cons, List.tail_cons]
    by_cases h : (x.1, x.2, (0 : Int)) ∈ o
    · rw [addQ_old h]; exact Nat.le_refl _
    · rw [addQ_new h]
      exact fold1 (x.1, x.2, 0) r _ _ (fun q => by rw [List.mem_append, List.mem_singleton]) h (by rw [List.length_append, List.length_singleton])
theorem queV_less {c : Cir} (h : chkC c = 0) : (queV (lessC c)).length ≤ (queV c).length := by
  rw [queV, queV, if_pos h, if_pos (chkC_less h)]
  exact fold_tl c.eqs _
end Go.Pl
namespace Go.Proofs.Ytpghmnpbfaichaa
open Go.Sx Go.Pl
set_option linter.unusedVariables false
set_option maxRecDepth 100000
theorem clS (c : Cir) (K : List It → St → Prop) (R : SV → List HO → Prop) : W (xwp Try.prog X K61 [] 60 (fxOf Try.f7 [] []) [] [.at []] ⟨argsS 0 [.agg [.v (.int .i64 c.fx), .v (.int .i64 c.ad), .v (.int .i64 c.ins), .x 0 [], .x 1 [], .x 2 [], .x 3 []]], [.ext false (.s false 7 c.nodes.length (cN c.nodes)), .ext false (.s false 1 c.gates.length (cI c.gates)), .ext false (.s false 2 c.looks.length (cL c.looks)), .ext false (.s false 2 c.eqs.length (cK c.eqs))]⟩ K R) = W (lC c.1 c.2 c.3 (List.length c.4) (List.length c.5) (List.length c.6) (List.length c.7) (cN c.4) (cI c.5) (cL c.6) (cK c.7) fun (c_1 : Cir) => lC c_1.1 c_1.2 c_1.3 (List.length c_1.4) (List.length c_1.5) (List.length c_1.6) (List.length c_1.7) (cN c_1.4) (cI c_1.5) (cL c_1.6) (cK c_1.7) fun (c_2 : Cir) => lC c.1 c.2 c.3 (List.length c.4) (List.length c.5) (List.length c.6) (List.length c.7) (cN c.4) (cI c.5) (cL c.6) (cK c.7) fun (c_3 : Cir) => bif greatB c_3 then R (SV.v (Value.bool true)) [] else bif !chkC c_2 == (0 : Int) then R (SV.v (Value.bool true)) [] else lC c.1 c.2 c.3 (List.length c.4) (List.length c.5) (List.length c.6) (List.length c.7) (cN c.4) (cI c.5) (cL c.6) (cK c.7) fun (c_4 : Cir) => (∀ (M : Mem), 0 + 7 ≤ 7) ∧ bif decide ((0 : Int) < (↑(List.length c_4.5) : Int)) then (∀ (M : Mem), (0 : Int) ≤ (1 : Int)) ∧ (∀ (M : Mem), 1 ≤ List.length c_4.5 ∧ List.length c_4.5 ≤ List.length c_4.5) ∧ (∀ (M : Mem), 4 + 1 ≤ 7) ∧ bif decide ((0 : Int) < (↑(List.length c_4.6) : Int)) then (∀ (M : Mem), (0 : Int) ≤ (1 : Int)) ∧ (∀ (M : Mem), 1 ≤ List.length c_4.6 ∧ List.length c_4.6 ≤ List.length c_4.6) ∧ (∀ (M : Mem), 5 + 1 ≤ 7) ∧ bif decide ((0 : Int) < (↑(List.length c_4.7) : Int)) then (∀ (M : Mem), (0 : Int) ≤ (1 : Int)) ∧ (∀ (M : Mem), 1 ≤ List.length c_4.7 ∧ List.length c_4.7 ≤ List.length c_4.7) ∧ (∀ (M : Mem), 6 + 1 ≤ 7) ∧ lC c_4.1 c_4.2 c_4.3 (List.length c_4.4) (List.length c_4.5 - 1) (List.length c_4.6 - 1) (List.length c_4.7 - 1) (cN c_4.4) (fun (k j : Nat) => cI c_4.5 (k + 1) j) (fun (k j : Nat) => cL c_4.6 (k + 1) j) (fun (k j : Nat) => cK c_4.7 (k + 1) j) fun (c_5 : Cir) => bif chkC c_5 == (0 : Int) then bif decide (degV c_5 ≤ degV c_2) then lC c_4.1 c_4.2 c_4.3 (List.length c_4.4) (List.length c_4.5 - 1) (List.length c_4.6 - 1) (List.length c_4.7 - 1) (cN c_4.4) (fun (k j : Nat) => cI c_4.5 (k + 1) j) (fun (k j : Nat) => cL c_4.6 (k + 1) j) (fun (k j : Nat) => cK c_4.7 (k + 1) j) fun (c_6 : Cir) => lC c.1 c.2 c.3 (List.length c.4) (List.length c.5) (List.length c.6) (List.length c.7) (cN c.4) (cI c.5) (cL c.6) (cK c.7) fun (c : Cir) => lC c.1 c.2 c.3 (List.length c.4) (List.length c.5) (List.length c.6) (List.length c.7) (cN c.4) (cI c.5) (cL c.6) (cK c.7) fun (c : Cir) => R (SV.v (Value.bool (decide ((↑(List.length (queV c_6)) : Int) ≤ (↑(List.length (queV c)) : Int))))) [] else R (SV.v (Value.bool false)) [] else R (SV.v (Value.bool false)) [] else lC c_4.1 c_4.2 c_4.3 (List.length c_4.4) (List.length c_4.5 - 1) (List.length c_4.6 - 1) (List.length c_4.7) (cN c_4.4) (fun (k j : Nat) => cI c_4.5 (k + 1) j) (fun (k j : Nat) => cL c_4.6 (k + 1) j) (cK c_4.7) fun (c_5 : Cir) => bif chkC c_5 == (0 : Int) then bif decide (degV c_5 ≤ degV c_2) then lC c_4.1 c_4.2 c_4.3 (List.length c_4.4) (List.length c_4.5 - 1) (List.length c_4.6 - 1) (List.length c_4.7) (cN c_4.4) (fun (k j : Nat) => cI c_4.5 (k + 1) j) (fun (k j : Nat) => cL c_4.6 (k + 1) j) (cK c_4.7) fun (c_6 : Cir) => lC c.1 c.2 c.3 (List.length c.4) (List.length c.5) (List.length c.6) (List.length c.7) (cN c.4) (cI c.5) (cL c.6) (cK c.7) fun (c : Cir) => lC c.1 c.2 c.3 (List.length c.4) (List.length c.5) (List.length c.6) (List.length c.7) (cN c.4) (cI c.5) (cL c.6) (cK c.7) fun (c : Cir) => R (SV.v (Value.bool (decide ((↑(List.length (queV c_6)) : Int) ≤ (↑(List.length (queV c)) : Int))))) [] else R (SV.v (Value.bool false)) [] else R (SV.v (Value.bool false)) [] else bif decide ((0 : Int) < (↑(List.length c_4.7) : Int)) then (∀ (M : Mem), (0 : Int) ≤ (1 : Int)) ∧ (∀ (M : Mem), 1 ≤ List.length c_4.7 ∧ List.length c_4.7 ≤ List.length c_4.7) ∧ (∀ (M : Mem), 6 + 1 ≤ 7) ∧ lC c_4.1 c_4.2 c_4.3 (List.length c_4.4) (List.length c_4.5 - 1) (List.length c_4.6) (List.length c_4.7 - 1) (cN c_4.4) (fun (k j : Nat) => cI c_4.5 (k + 1) j) (cL c_4.6) (fun (k j : Nat) => cK c_4.7 (k + 1) j) fun (c_5 : Cir) => bif chkC c_5 == (0 : Int) then bif decide (degV c_5 ≤ degV c_2) then lC c_4.1 c_4.2 c_4.3 (List.length c_4.4) (List.length c_4.5 - 1) (List.length c_4.6) (List.length c_4.7 - 1) (cN c_4.4) (fun (k j : Nat) => cI c_4.5 (k + 1) j) (cL c_4.6) (fun (k j : Nat) => cK c_4.7 (k + 1) j) fun (c_6 : Cir) => lC c.1 c.2 c.3 (List.length c.4) (List.length c.5) (List.length c.6) (List.length c.7) (cN c.4) (cI c.5) (cL c.6) (cK c.7) fun (c : Cir) => lC c.1 c.2 c.3 (List.length c.4) (List.length c.5) (List.length c.6) (List.length c.7) (cN c.4) (cI c.5) (cL c.6) (cK c.7) fun (c : Cir) => R (SV.v (Value.bool (decide ((↑(List.length (queV c_6)) : Int) ≤ (↑(List.length (queV c)) : Int))))) [] else R (SV.v (Value.bool false)) [] else R (SV.v (Value.bool false)) [] else lC c_4.1 c_4.2 c_4.3 (List.length c_4.4) (List.length c_4.5 - 1) (List.length c_4.6) (List.length c_4.7) (cN c_4.4) (fun (k j : Nat) => cI c_4.5 (k + 1) j) (cL c_4.6) (cK c_4.7) fun (c_5 : Cir) => bif chkC c_5 == (0 : Int) then bif decide (degV c_5 ≤ degV c_2) then lC c_4.1 c_4.2 c_4.3 (List.length c_4.4) (List.length c_4.5 - 1) (List.length c_4.6) (List.length c_4.7) (cN c_4.4) (fun (k j : Nat) => cI c_4.5 (k + 1) j) (cL c_4.6) (cK c_4.7) fun (c_6 : Cir) => lC c.1 c.2 c.3 (List.length c.4) (List.length c.5) (List.length c.6) (List.length c.7) (cN c.4) (cI c.5) (cL c.6) (cK c.7) fun (c : Cir) => lC c.1 c.2 c.3 (List.length c.4) (List.length c.5) (List.length c.6) (List.length c.7) (cN c.4) (cI c.5) (cL c.6) (cK c.7) fun (c : Cir) => R (SV.v (Value.bool (decide ((↑(List.length (queV c_6)) : Int) ≤ (↑(List.length (queV c)) : Int))))) [] else R (SV.v (Value.bool false)) [] else R (SV.v (Value.bool false)) [] else bif decide ((0 : Int) < (↑(List.length c_4.6) : Int)) then (∀ (M : Mem), (0 : Int) ≤ (1 : Int)) ∧ (∀ (M : Mem), 1 ≤ List.length c_4.6 ∧ List.length c_4.6 ≤ List.length c_4.6) ∧ (∀ (M : Mem), 5 + 1 ≤ 7) ∧ bif decide ((0 : Int) < (↑(List.length c_4.7) : Int)) then (∀ (M : Mem), (0 : Int) ≤ (1 : Int)) ∧ (∀ (M : Mem), 1 ≤ List.length c_4.7 ∧ List.length c_4.7 ≤ List.length c_4.7) ∧ (∀ (M : Mem), 6 + 1 ≤ 7) ∧ lC c_4.1 c_4.2 c_4.3 (List.length c_4.4) (List.length c_4.5) (List.length c_4.6 - 1) (List.length c_4.7 - 1) (cN c_4.4) (cI c_4.5) (fun (k j : Nat) => cL c_4.6 (k + 1) j) (fun (k j : Nat) => cK c_4.7 (k + 1) j) fun (c_5 : Cir) => bif chkC c_5 == (0 : Int) then bif decide (degV c_5 ≤ degV c_2) then lC c_4.1 c_4.2 c_4.3 (List.length c_4.4) (List.length c_4.5) (List.length c_4.6 - 1) (List.length c_4.7 - 1) (cN c_4.4) (cI c_4.5) (fun (k j : Nat) => cL c_4.6 (k + 1) j) (fun (k j : Nat) => cK c_4.7 (k + 1) j) fun (c_6 : Cir) => lC c.1 c.2 c.3 (List.length c.4) (List.length c.5) (List.length c.6) (List.length c.7) (cN c.4) (cI c.5) (cL c.6) (cK c.7) fun (c : Cir) => lC c.1 c.2 c.3 (List.length c.4) (List.length c.5) (List.length c.6) (List.length c.7) (cN c.4) (cI c.5) (cL c.6) (cK c.7) fun (c : Cir) => R (SV.v (Value.bool (decide ((↑(List.length (queV c_6)) : Int) ≤ (↑(List.length (queV c)) : Int))))) [] else R (SV.v (Value.bool false)) [] else R (SV.v (Value.bool false)) [] else lC c_4.1 c_4.2 c_4.3 (List.length c_4.4) (List.length c_4.5) (List.length c_4.6 - 1) (List.length c_4.7) (cN c_4.4) (cI c_4.5) (fun (k j : Nat) => cL c_4.6 (k + 1) j) (cK c_4.7) fun (c_5 : Cir) => bif chkC c_5 == (0 : Int) then bif decide (degV c_5 ≤ degV c_2) then lC c_4.1 c_4.2 c_4.3 (List.length c_4.4) (List.length c_4.5) (List.length c_4.6 - 1) (List.length c_4.7) (cN c_4.4) (cI c_4.5) (fun (k j : Nat) => cL c_4.6 (k + 1) j) (cK c_4.7) fun (c_6 : Cir) => lC c.1 c.2 c.3 (List.length c.4) (List.length c.5) (List.length c.6) (List.length c.7) (cN c.4) (cI c.5) (cL c.6) (cK c.7) fun (c : Cir) => lC c.1 c.2 c.3 (List.length c.4) (List.length c.5) (List.length c.6) (List.length c.7) (cN c.4) (cI c.5) (cL c.6) (cK c.7) fun (c : Cir) => R (SV.v (Value.bool (decide ((↑(List.length (queV c_6)) : Int) ≤ (↑(List.length (queV c)) : Int))))) [] else R (SV.v (Value.bool false)) [] else R (SV.v (Value.bool false)) [] else bif decide ((0 : Int) < (↑(List.length c_4.7) : Int)) then (∀ (M : Mem), (0 : Int) ≤ (1 : Int)) ∧ (∀ (M : Mem), 1 ≤ List.length c_4.7 ∧ List.length c_4.7 ≤ List.length c_4.7) ∧ (∀ (M : Mem), 6 + 1 ≤ 7) ∧ lC c_4.1 c_4.2 c_4.3 (List.length c_4.4) (List.length c_4.5) (List.length c_4.6) (List.length c_4.7 - 1) (cN c_4.4) (cI c_4.5) (cL c_4.6) (fun (k j : Nat) => cK c_4.7 (k + 1) j) fun (c_5 : Cir) => bif chkC c_5 == (0 : Int) then bif decide (degV c_5 ≤ degV c_2) then lC c_4.1 c_4.2 c_4.3 (List.length c_4.4) (List.length c_4.5) (List.length c_4.6) (List.length c_4.7 - 1) (cN c_4.4) (cI c_4.5) (cL c_4.6) (fun (k j : Nat) => cK c_4.7 (k + 1) j) fun (c_6 : Cir) => lC c.1 c.2 c.3 (List.length c.4) (List.length c.5) (List.length c.6) (List.length c.7) (cN c.4) (cI c.5) (cL c.6) (cK c.7) fun (c : Cir) => lC c.1 c.2 c.3 (List.length c.4) (List.length c.5) (List.length c.6) (List.length c.7) (cN c.4) (cI c.5) (cL c.6) (cK c.7) fun (c : Cir) => R (SV.v (Value.bool (decide ((↑(List.length (queV c_6)) : Int) ≤ (↑(List.length (queV c)) : Int))))) [] else R (SV.v (Value.bool false)) [] else R (SV.v (Value.bool false)) [] else lC c_4.1 c_4.2 c_4.3 (List.length c_4.4) (List.length c_4.5) (List.length c_4.6) (List.length c_4.7) (cN c_4.4) (cI c_4.5) (cL c_4.6) (cK c_4.7) fun (c_5 : Cir) => bif chkC c_5 == (0 : Int) then bif decide (degV c_5 ≤ degV c_2) then lC c_4.1 c_4.2 c_4.3 (List.length c_4.4) (List.length c_4.5) (List.length c_4.6) (List.length c_4.7) (cN c_4.4) (cI c_4.5) (cL c_4.6) (cK c_4.7) fun (c_6 : Cir) => lC c.1 c.2 c.3 (List.length c.4) (List.length c.5) (List.length c.6) (List.length c.7) (cN c.4) (cI c.5) (cL c.6) (cK c.7) fun (c : Cir) => lC c.1 c.2 c.3 (List.length c.4) (List.length c.5) (List.length c.6) (List.length c.7) (cN c.4) (cI c.5) (cL c.6) (cK c.7) fun (c : Cir) => R (SV.v (Value.bool (decide ((↑(List.length (queV c_6)) : Int) ≤ (↑(List.length (queV c)) : Int))))) [] else R (SV.v (Value.bool false)) [] else R (SV.v (Value.bool false)) []) := by kernel_rfl
theorem bCl : Try.f7.body.isSome = true := by kernel_rfl
theorem nCl (c : Cir) : Nat.ble [(.agg [.v (.int .i64 c.fx), .v (.int .i64 c.ad), .v (.int .i64 c.ins), .x 0 [], .x 1 [], .x 2 [], .x 3 []] : SV)].length Try.f7.ntmps = true := by kernel_rfl
theorem cless_ok (c : Cir) (hc : c.ok) (Q : SV → List HO → Prop) (hq : Q (.v (.bool true)) []) : FnOk Try.prog 7 [.agg [.v (.int .i64 c.fx), .v (.int .i64 c.ad), .v (.int .i64 c.ins), .x 0 [], .x 1 [], .x 2 [], .x 3 []]] [.ext false (.s false 7 c.nodes.length (cN c.nodes)), .ext false (.s false 1 c.gates.length (cI c.gates)), .ext false (.s false 2 c.looks.length (cL c.looks)), .ext false (.s false 2 c.eqs.length (cK c.eqs))] Q := by
  refine fn_of_ok Try.func7 bCl ?_ ?_
  · exact nCl c
  refine run_sound hm 60 ((clS c _ _).mpr ⟨?_⟩)
  refine lC_mk c hc (lC_mk c hc (lC_mk c hc ?_))
  cases greatB c with
  | true => exact hq
  | false =>
    rw [cond_false, cond_not, cond_beq]
    refine ite_intro (fun h0 => lC_mk c hc (And.intro (fun _ => by omega) ?_)) (fun _ => hq)
    have hl := lessC_ok hc
    have fin : ∀ {p q r : Prop}, p → (bif chkC (lessC c) == 0 then bif decide (degV (lessC c) ≤ degV c) then p else q else r) := fun hp => by
      rw [chkC_less h0, decide_eq_true (degV_less h0)]
      exact hp
    have lst : Q (.v (.bool (decide (((queV (lessC c)).length : Int) ≤ ((queV c).length : Int))))) [] := by
      rw [decide_eq_true (Int.ofNat_le.2 (queV_less h0))]
      exact hq
    simp only [cond_dec (p := (0 : Int) < _)]
    refine ite_intro (fun a1 => And.intro (fun _ => by omega) (And.intro (fun _ => by omega) (And.intro (fun _ => by omega) ?_))) (fun a1 => ?_)
    · refine ite_intro (fun a2 => And.intro (fun _ => by omega) (And.intro (fun _ => by omega) (And.intro (fun _ => by omega) ?_))) (fun a2 => ?_)
      · refine ite_intro (fun a3 => And.intro (fun _ => by omega) (And.intro (fun _ => by omega) (And.intro (fun _ => by omega) ?_))) (fun a3 => ?_)
        · exact lC_of (lessC c) hl rfl rfl rfl ⟨rfl, IsC.refl _ _ _⟩ (tlI _) (tlL _) (tlK _) (fin (lC_of (lessC c) hl rfl rfl rfl ⟨rfl, IsC.refl _ _ _⟩ (tlI _) (tlL _) (tlK _) (lC_mk c hc (lC_mk c hc lst))))
        · exact lC_of (lessC c) hl rfl rfl rfl ⟨rfl, IsC.refl _ _ _⟩ (tlI _) (tlL _) (noK (by omega)) (fin (lC_of (lessC c) hl rfl rfl rfl ⟨rfl, IsC.refl _ _ _⟩ (tlI _) (tlL _) (noK (by omega)) (lC_mk c hc (lC_mk c hc lst))))
      · refine ite_intro (fun a3 => And.intro (fun _ => by omega) (And.intro (fun _ => by omega) (And.intro (fun _ => by omega) ?_))) (fun a3 => ?_)
        · exact lC_of (lessC c) hl rfl rfl rfl ⟨rfl, IsC.refl _ _ _⟩ (tlI _) (noL (by omega)) (tlK _) (fin (lC_of (lessC c) hl rfl rfl rfl ⟨rfl, IsC.refl _ _ _⟩ (tlI _) (noL (by omega)) (tlK _) (lC_mk c hc (lC_mk c hc lst))))
        · exact lC_of (lessC c) hl rfl rfl rfl ⟨rfl, IsC.refl _ _ _⟩ (tlI _) (noL (by omega)) (noK (by omega)) (fin (lC_of (lessC c) hl rfl rfl rfl ⟨rfl, IsC.refl _ _ _⟩ (tlI _) (noL (by omega)) (noK (by omega)) (lC_mk c hc (lC_mk c hc lst))))
    · refine ite_intro (fun a2 => And.intro (fun _ => by omega) (And.intro (fun _ => by omega) (And.intro (fun _ => by omega) ?_))) (fun a2 => ?_)
      · refine ite_intro (fun a3 => And.intro (fun _ => by omega) (And.intro (fun _ => by omega) (And.intro (fun _ => by omega) ?_))) (fun a3 => ?_)
        · exact lC_of (lessC c) hl rfl rfl rfl ⟨rfl, IsC.refl _ _ _⟩ (noI (by omega)) (tlL _) (tlK _) (fin (lC_of (lessC c) hl rfl rfl rfl ⟨rfl, IsC.refl _ _ _⟩ (noI (by omega)) (tlL _) (tlK _) (lC_mk c hc (lC_mk c hc lst))))
        · exact lC_of (lessC c) hl rfl rfl rfl ⟨rfl, IsC.refl _ _ _⟩ (noI (by omega)) (tlL _) (noK (by omega)) (fin (lC_of (lessC c) hl rfl rfl rfl ⟨rfl, IsC.refl _ _ _⟩ (noI (by omega)) (tlL _) (noK (by omega)) (lC_mk c hc (lC_mk c hc lst))))
      · refine ite_intro (fun a3 => And.intro (fun _ => by omega) (And.intro (fun _ => by omega) (And.intro (fun _ => by omega) ?_))) (fun a3 => ?_)
        · exact lC_of (lessC c) hl rfl rfl rfl ⟨rfl, IsC.refl _ _ _⟩ (noI (by omega)) (noL (by omega)) (tlK _) (fin (lC_of (lessC c) hl rfl rfl rfl ⟨rfl, IsC.refl _ _ _⟩ (noI (by omega)) (noL (by omega)) (tlK _) (lC_mk c hc (lC_mk c hc lst))))
        · exact lC_of (lessC c) hl rfl rfl rfl ⟨rfl, IsC.refl _ _ _⟩ (noI (by omega)) (noL (by omega)) (noK (by omega)) (fin (lC_of (lessC c) hl rfl rfl rfl ⟨rfl, IsC.refl _ _ _⟩ (noI (by omega)) (noL (by omega)) (noK (by omega)) (lC_mk c hc (lC_mk c hc lst))))
end Go.Proofs.Ytpghmnpbfaichaa
