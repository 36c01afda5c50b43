/- The texts Z82 .. Z81 of this proof, one behind the other. -/
import Derived.Test.YtlmjdcbhpffanaaGreatM4
import Derived.Test.YtlmjdcbhpffanaaGreatM3
import Derived.Test.YtlmjdcbhpffanaaGreatM1
/- Faults compared; great circuits. -/
namespace Go.Pl
open Go.Sx
def great13 (c : Cir) (s : Sht) : Bool := decide (200 < c.nodes.length ∨ 100 < c.gates.length ∨ 20 < c.looks.length ∨ 100 < c.eqs.length ∨ 100 < s.fx.length + s.ad.length + s.is.length ∨ 1000 < s.cp.length)
end Go.Pl
namespace Go.Proofs.YtlmjdcbhpffanaaGreat
open Go.Sx Go.Pl
set_option linter.unusedVariables false
set_option maxRecDepth 100000
theorem sfR (b b2 : Bool) (l l2 : List (Int × Int × Int)) (n n2 k M : Nat) (K : List It → St → Prop) (R : SV → List HO → Prop) : W (xwp Tryz.prog X K80 [] 60 (fxOf Tryz.f27 [] [⟨[0,1,0,1,1], [5,4,0,1], []⟩]) [] (.at [0,0,1,0,1,1] :: .rnd [0,0,1,0,1,1] M :: [.blk 0, .at [1,1,1]]) ⟨[(5, .v (.int .i64 (k : Int))), (4, .v (.bool false)), (0, .x 0 []), (1, .x 1 [])], [.ext b (.s false 3 n (cQ l)), .ext b2 (.s false 3 n2 (cQ l2))]⟩ K R) = W (bif decide ((↑k : Int) < (↑n : Int)) then (∀ M : Mem, (0 : Int) ≤ (↑k : Int) ∧ (↑k : Int) < (↑n : Int)) ∧ (∀ M : Mem, k < n) ∧ (∀ M : Mem, (0 : Int) ≤ (↑k : Int) ∧ (↑k : Int) < (↑n2 : Int)) ∧ (∀ M : Mem, k < n2) ∧ bif !decide ([(gQ l k).1, (gQ l k).2.1, (gQ l k).2.2] = [(gQ l2 k).1, (gQ l2 k).2.1, (gQ l2 k).2.2]) then R (.v (.bool false)) [] else K [.rnd [0,0,1,0,1,1] M, .blk 0, .at [1,1,1]] (St.mk [(5, .v (vi64 (IntKind.wrap .i64 ((↑k : Int) + (1 : Int))))), (4, .v (.bool false)), (0, .x 0 []), (1, .x 1 [])] [.ext b (.s false 3 n (cQ l)), .ext b2 (.s false 3 n2 (cQ l2))]) else R (.v (.bool true)) []) := by kernel_rfl
theorem sfS (b b2 : Bool) (l l2 : List (Int × Int × Int)) (n n2 : Nat) (K : List It → St → Prop) (R : SV → List HO → Prop) : W (xwp Tryz.prog X K80 [] 60 (fxOf Tryz.f27 [] [⟨[0,1,0,1,1], [5,4,0,1], []⟩]) [] [.at []] ⟨argsS 0 [.x 0 [], .x 1 []], [.ext b (.s false 3 n (cQ l)), .ext b2 (.s false 3 n2 (cQ l2))]⟩ K R) = W (bif !(↑n : Int) == (↑n2 : Int) then R (.v (.bool false)) [] else K [.at [0,1,0,1,1], .blk 0, .at [1,1,1]] (St.mk [(5, .v (vi64 0)), (4, .v (.bool false)), (0, .x 0 []), (1, .x 1 [])] [.ext b (.s false 3 n (cQ l)), .ext b2 (.s false 3 n2 (cQ l2))])) := by kernel_rfl
theorem gr13S (c : Cir) (s : Sht) (K : List It → St → Prop) (R : SV → List HO → Prop) : W (xwp Tryz.prog X K80 [] 60 (fxOf Tryz.f19 [] []) [] [.at []] ⟨argsS 0 [.agg [.v (.int .i64 c.fx), .v (.int .i64 c.ad), .v (.int .i64 c.ins), .x 0 [], .x 1 [], .x 2 [], .x 3 []], .agg [.x 4 [], .x 5 [], .x 6 [], .x 7 []]], [.ext false (.s false 7 c.nodes.length (cN c.nodes)), .ext false (.s false 1 c.gates.length (cI c.gates)), .ext false (.s false 2 c.looks.length (cL c.looks)), .ext false (.s false 2 c.eqs.length (cK c.eqs)), .ext false (.s false 1 s.fx.length (cT s.fx)), .ext false (.s false 1 s.ad.length (cT s.ad)), .ext false (.s false 1 s.is.length (cT s.is)), .ext false (.s false 4 s.cp.length (cP s.cp))]⟩ K R) = W (bif decide ((200 : Int) < (↑c.4.length : Int)) then R (.v (.bool true)) [] else bif decide ((100 : Int) < (↑c.5.length : Int)) then R (.v (.bool true)) [] else bif decide ((20 : Int) < (↑c.6.length : Int)) then R (.v (.bool true)) [] else bif decide ((100 : Int) < (↑c.7.length : Int)) then R (.v (.bool true)) [] else bif decide ((100 : Int) < IntKind.wrap .i64 (IntKind.wrap .i64 ((↑s.1.length : Int) + (↑s.2.length : Int)) + (↑s.3.length : Int))) then R (.v (.bool true)) [] else R (.v (.bool (decide ((1000 : Int) < (↑s.4.length : Int))))) []) := by kernel_rfl
theorem sf_loop (b b2 : Bool) (l l2 : List (Int × Int × Int)) (hl : l.length = l2.length) (hb : l.length ≤ 4398046511104) (Q : SV → List HO → Prop) (hq1 : (∀ k, k < l.length → [(gQ l k).1, (gQ l k).2.1, (gQ l k).2.2] = [(gQ l2 k).1, (gQ l2 k).2.1, (gQ l2 k).2.2]) → Q (.v (.bool true)) []) (hq0 : (∃ k, k < l.length ∧ ¬ ([(gQ l k).1, (gQ l k).2.1, (gQ l k).2.2] = [(gQ l2 k).1, (gQ l2 k).2.1, (gQ l2 k).2.2])) → Q (.v (.bool false)) []) :
    ∀ (d k : Nat), k + d = l.length → (∀ k', k' < k → [(gQ l k').1, (gQ l k').2.1, (gQ l k').2.2] = [(gQ l2 k').1, (gQ l2 k').2.1, (gQ l2 k').2.2]) →
    FOk Tryz.prog Tryz.f27 Q (.rnd [0,0,1,0,1,1] (d + 1) :: [.blk 0, .at [1,1,1]]) ⟨[(5, .v (.int .i64 (k : Int))), (4, .v (.bool false)), (0, .x 0 []), (1, .x 1 [])], [.ext b (.s false 3 l.length (cQ l)), .ext b2 (.s false 3 l2.length (cQ l2))]⟩
  | 0, k, hd, he => by
    refine FOk.rnd (run_sound hm 60 ((sfR b b2 l l2 l.length l2.length k 0 _ _).mpr ⟨?_⟩))
    simp only [cond_dec]
    rw [if_neg (by omega)]
    exact hq1 fun k' hk' => he k' (by omega)
  | d + 1, k, hd, he => by
    refine FOk.rnd (run_sound hm 60 ((sfR b b2 l l2 l.length l2.length k (d + 1) _ _).mpr ⟨?_⟩))
    simp only [cond_dec, cond_not, forall_const]
    rw [if_pos (by omega)]
    repeat' (first | refine And.intro (by omega) ?_ | refine ite_intro (fun h => ?_) (fun h => ?_))
    · rw [wrap_inc _ (by omega)]
      refine sf_loop b b2 l l2 hl hb Q hq1 hq0 d (k + 1) (by omega) fun k' hk' => ?_
      by_cases hh : k' = k
      · rw [hh]; exact h
      · exact he k' (by omega)
    · exact hq0 ⟨k, by omega, h⟩
theorem bsf : Tryz.f27.body.isSome = true := by kernel_rfl
theorem nsf : Nat.ble [SV.x 0 [], .x 1 []].length Tryz.f27.ntmps = true := by kernel_rfl
theorem sf_ok (b b2 : Bool) (l l2 : List (Int × Int × Int)) (hb : l.length ≤ 4398046511104) (Q : SV → List HO → Prop) (hq1 : l.length = l2.length → (∀ k, k < l.length → [(gQ l k).1, (gQ l k).2.1, (gQ l k).2.2] = [(gQ l2 k).1, (gQ l2 k).2.1, (gQ l2 k).2.2]) → Q (.v (.bool true)) []) (hq0 : (l.length ≠ l2.length ∨ ∃ k, k < l.length ∧ ¬ ([(gQ l k).1, (gQ l k).2.1, (gQ l k).2.2] = [(gQ l2 k).1, (gQ l2 k).2.1, (gQ l2 k).2.2])) → Q (.v (.bool false)) []) : FnOk Tryz.prog 27 [.x 0 [], .x 1 []] [.ext b (.s false 3 l.length (cQ l)), .ext b2 (.s false 3 l2.length (cQ l2))] Q := by
  refine fn_of_ok Tryz.func27 bsf ?_ ?_
  · exact nsf
  refine run_sound hm 60 ((sfS b b2 l l2 l.length l2.length _ _).mpr ⟨?_⟩)
  simp only [cond_not, cond_beq]
  refine ite_intro (fun h => ?_) (fun h => hq0 (.inl (by omega)))
  have h' : l.length = l2.length := by omega
  exact FOk.loop (l.length + 1) (by kernel_rfl) (sf_loop b b2 l l2 h' hb Q (hq1 h') (fun hh => hq0 (.inr hh)) l.length 0 (by omega) fun k' hk' => by omega)
noncomputable def g_sf : List SV → List HO → Option ((SV → List HO → Prop) → Prop)
  | [.x 0 [], .x 1 []], [.ext _ (.s false 3 n c), .ext _ (.s false 3 n2 c2)] => some fun Q => lQ2 n n2 c c2 fun l l2 => Q (.v (.bool (decide (l = l2)))) []
  | _, _ => none
theorem g_sf_ok (args : List SV) (h : List HO) (tr : (SV → List HO → Prop) → Prop) (Q : SV → List HO → Prop) (hc : g_sf args h = some tr) (ht : tr Q) : FnOk Tryz.prog 27 args h Q := by
  unfold g_sf at hc
  split at hc
  · rename_i b n c b2 n2 c2
    simp only [Option.some.injEq] at hc
    subst hc
    obtain ⟨l, l2, rfl, he, rfl, he2, hb, hq⟩ := ht.h
    refine FnOk.ac (sf_ok b b2 l l2 hb Q (fun h1 h2 => ?_) (fun h1 => ?_)) ⟨⟨rfl, rfl, rfl, rfl, he⟩, ⟨rfl, rfl, rfl, rfl, he2⟩, trivial⟩
    · rw [decide_eq_true (ext_gQ h1 fun k hk => q_eq (h2 k hk))] at hq; exact hq
    · rw [decide_eq_false (fun hh => by subst hh; exact h1.elim (fun h => h rfl) (fun ⟨_, _, h⟩ => h rfl))] at hq; exact hq
  · cases hc
theorem bGr13 : Tryz.f19.body.isSome = true := by kernel_rfl
theorem nGr13 (c : Cir) : Nat.ble [(.agg [.v (.int .i64 c.fx), .v (.int .i64 c.ad), .v (.int .i64 c.ins), .x 0 [], .x 1 [], .x 2 [], .x 3 []] : SV), .agg [.x 4 [], .x 5 [], .x 6 [], .x 7 []]].length Tryz.f19.ntmps = true := by kernel_rfl
theorem gr13_ok (c : Cir) (hc : c.ok) (s : Sht) (hs : s.ok) (Q : SV → List HO → Prop) (hq : Q (.v (.bool (great13 c s))) []) : FnOk Tryz.prog 19 [.agg [.v (.int .i64 c.fx), .v (.int .i64 c.ad), .v (.int .i64 c.ins), .x 0 [], .x 1 [], .x 2 [], .x 3 []], .agg [.x 4 [], .x 5 [], .x 6 [], .x 7 []]] [.ext false (.s false 7 c.nodes.length (cN c.nodes)), .ext false (.s false 1 c.gates.length (cI c.gates)), .ext false (.s false 2 c.looks.length (cL c.looks)), .ext false (.s false 2 c.eqs.length (cK c.eqs)), .ext false (.s false 1 s.fx.length (cT s.fx)), .ext false (.s false 1 s.ad.length (cT s.ad)), .ext false (.s false 1 s.is.length (cT s.is)), .ext false (.s false 4 s.cp.length (cP s.cp))] Q := by
  refine fn_of_ok Tryz.func19 bGr13 ?_ ?_
  · exact nGr13 c
  have h1 := hs.f.2
  have h2 := hs.a.2
  have h3 := hs.i.2
  refine run_sound hm 60 ((gr13S c s _ _).mpr ⟨?_⟩)
  rw [wrap_in ((s.1.length : Int) + (s.2.length : Int)) (by omega), wrap_in _ (by omega)]
  simp only [cond_dec]
  refine ite_intro (fun h => ?_) (fun h => ite_intro (fun h2 => ?_) (fun h2 => ite_intro (fun h3 => ?_) (fun h3 => ite_intro (fun h4 => ?_) (fun h4 => ite_intro (fun h5 => ?_) (fun h5 => ?_)))))
  all_goals first
    | (rw [show great13 c s = true from decide_eq_true (by omega)] at hq; exact hq)
    | (rw [show decide ((1000 : Int) < (s.cp.length : Int)) = great13 c s from decide_eq_decide.2 (by omega)]; exact hq)
noncomputable def gGr13 : List SV → List HO → Option ((SV → List HO → Prop) → Prop)
  | [.agg [.v (.int .i64 fx), .v (.int .i64 ad), .v (.int .i64 ins), .x 0 [], .x 1 [], .x 2 [], .x 3 []], .agg [.x 4 [], .x 5 [], .x 6 [], .x 7 []]], [.ext false (.s false 7 n0 c0), .ext false (.s false 1 n1 c1), .ext false (.s false 2 n2 c2), .ext false (.s false 2 n3 c3), .ext false (.s false 1 m0 d0), .ext false (.s false 1 m1 d1), .ext false (.s false 1 m2 d2), .ext false (.s false 4 m3 d3)] =>
    some fun Q => lF fx ad ins n0 n1 n2 n3 m0 m1 m2 m3 c0 c1 c2 c3 d0 d1 d2 d3 fun c s => Q (.v (.bool (great13 c s))) []
  | _, _ => none
theorem gGr13_ok (args : List SV) (h : List HO) (tr : (SV → List HO → Prop) → Prop) (Q : SV → List HO → Prop) (hc : gGr13 args h = some tr) (ht : tr Q) : FnOk Tryz.prog 19 args h Q := by
  unfold gGr13 at hc
  split at hc
  · simp only [Option.some.injEq] at hc
    subst hc
    obtain ⟨c, rfl, rfl, rfl, ⟨rfl, e0⟩, ⟨rfl, e1⟩, ⟨rfl, e2⟩, ⟨rfl, e3⟩, hk, ht2⟩ := ht.h.h
    obtain ⟨s, ⟨rfl, e4⟩, ⟨rfl, e5⟩, ⟨rfl, e6⟩, ⟨rfl, e7⟩, hs, hq⟩ := ht2.h
    exact FnOk.ac (gr13_ok c hk s hs Q hq) ⟨⟨rfl, rfl, rfl, rfl, e0⟩, ⟨rfl, rfl, rfl, rfl, e1⟩, ⟨rfl, rfl, rfl, rfl, e2⟩, ⟨rfl, rfl, rfl, rfl, e3⟩, ⟨rfl, rfl, rfl, rfl, e4⟩, ⟨rfl, rfl, rfl, rfl, e5⟩, ⟨rfl, rfl, rfl, rfl, e6⟩, ⟨rfl, rfl, rfl, rfl, e7⟩, trivial⟩
  · cases hc
noncomputable def K82 : Con Tryz.prog := (K80.add 27 g_sf g_sf_ok).add 19 gGr13 gGr13_ok
end Go.Proofs.YtlmjdcbhpffanaaGreat
/- The document's cell value; columns that are short. -/
namespace Go.Proofs.YtlmjdcbhpffanaaGreat
open Go.Sx Go.Pl
set_option linter.unusedVariables false
set_option maxRecDepth 100000
theorem rshS (b : Bool) (l : List (List Nat)) (n u : Int) (K : List It → St → Prop) (R : SV → List HO → Prop) : W (xwp Tryz.prog X K82 [] 60 (fxOf Tryz.f57 [] [⟨[0,1,0,1,1], [7,0,2], []⟩]) [] [.at []] ⟨argsS 0 [.x 0 [], .v (.int .i64 n), .v (.int .i64 u)], [.ext b (.s false 1 l.length (cT l))]⟩ K R) = W (bif !(↑(List.length l) : Int) == n then R (.v (.bool false)) [] else K [.at [0,1,0,1,1], .blk 0, .at [1,1,1]] (St.mk [(7, .v (vi64 0)), (0, .x 0 []), (2, .v (vi64 u))] [.ext b (.s false 1 (List.length l) (cT l))])) := by kernel_rfl
theorem rshR (b : Bool) (l : List (List Nat)) (u : Int) (k M : Nat) (K : List It → St → Prop) (R : SV → List HO → Prop) : W (xwp Tryz.prog X K82 [] 60 (fxOf Tryz.f57 [] [⟨[0,1,0,1,1], [7,0,2], []⟩]) [] (.at [0,0,1,0,1,1] :: .rnd [0,0,1,0,1,1] M :: [.blk 0, .at [1,1,1]]) ⟨[(7, .v (.int .i64 (k : Int))), (0, .x 0 []), (2, .v (.int .i64 u))], [.ext b (.s false 1 l.length (cT l))]⟩ K R) = W (bif decide ((↑k : Int) < (↑(List.length l) : Int)) then (∀ M : Mem, (0 : Int) ≤ (↑k : Int) ∧ (↑k : Int) < (↑(List.length l) : Int)) ∧ (∀ M : Mem, k < List.length l) ∧ (∀ M : Mem, k < List.length l) ∧ bif decide (u < (↑(List.length (gT l k)) : Int)) then R (.v (.bool false)) [] else K [.rnd [0,0,1,0,1,1] M, .blk 0, .at [1,1,1]] (St.mk [(7, .v (vi64 (IntKind.wrap .i64 ((↑k : Int) + (1 : Int))))), (0, .x 0 []), (2, .v (vi64 u))] [.ext b (.s false 1 (List.length l) (cT l))]) else R (.v (.bool true)) []) := by kernel_rfl
theorem ratS (s : Sht) (kd co ro : Int) (K : List It → St → Prop) (R : SV → List HO → Prop) : W (xwp Tryz.prog X K82 [] 60 (fxOf Tryz.f24 [] []) [] [.at []] ⟨argsS 0 [.agg [.x 0 [], .x 1 [], .x 2 [], .x 3 []], .v (.int .i64 kd), .v (.int .i64 co), .v (.int .i64 ro)], [.ext false (.s false 1 s.fx.length (cT s.fx)), .ext false (.s false 1 s.ad.length (cT s.ad)), .ext false (.s false 1 s.is.length (cT s.is)), .ext false (.s false 4 s.cp.length (cP s.cp))]⟩ K R) = W (bif kd == (2 : Int) then bif decide (co < (0 : Int)) then (∀ M : Mem, 4 ≤ 4) ∧ R (.agg [.v (vu64 0), .v (vu64 0), .v (vu64 0), .v (vu64 0)]) [] else bif decide ((↑s.1.length : Int) ≤ co) then (∀ M : Mem, 4 ≤ 4) ∧ R (.agg [.v (vu64 0), .v (vu64 0), .v (vu64 0), .v (vu64 0)]) [] else bif decide (ro < (0 : Int)) then (∀ M : Mem, 4 ≤ 4) ∧ R (.agg [.v (vu64 0), .v (vu64 0), .v (vu64 0), .v (vu64 0)]) [] else (∀ M : Mem, (0 : Int) ≤ co ∧ co < (↑s.1.length : Int)) ∧ (∀ M : Mem, Int.toNat co < List.length s.1) ∧ (∀ M : Mem, Int.toNat co < List.length s.1) ∧ bif decide ((↑(List.length (gT s.1 (Int.toNat co))) : Int) ≤ ro) then (∀ M : Mem, 4 ≤ 4) ∧ R (.agg [.v (vu64 0), .v (vu64 0), .v (vu64 0), .v (vu64 0)]) [] else (∀ M : Mem, (0 : Int) ≤ co ∧ co < (↑s.1.length : Int)) ∧ (∀ M : Mem, Int.toNat co < List.length s.1) ∧ (∀ M : Mem, Int.toNat co < List.length s.1) ∧ (∀ M : Mem, (0 : Int) ≤ ro ∧ ro < (↑(List.length (gT s.1 (Int.toNat co))) : Int)) ∧ (∀ M : Mem, Int.toNat co < List.length s.1) ∧ (∀ M : Mem, Int.toNat ro < List.length (gT s.1 (Int.toNat co))) ∧ (∀ M : Mem, 0 + 4 ≤ 4) ∧ R ((eS (gE (gT s.1 (Int.toNat co)) (Int.toNat ro)))) [] else bif kd == (3 : Int) then bif decide (co < (0 : Int)) then (∀ M : Mem, 4 ≤ 4) ∧ R (.agg [.v (vu64 0), .v (vu64 0), .v (vu64 0), .v (vu64 0)]) [] else bif decide ((↑s.2.length : Int) ≤ co) then (∀ M : Mem, 4 ≤ 4) ∧ R (.agg [.v (vu64 0), .v (vu64 0), .v (vu64 0), .v (vu64 0)]) [] else bif decide (ro < (0 : Int)) then (∀ M : Mem, 4 ≤ 4) ∧ R (.agg [.v (vu64 0), .v (vu64 0), .v (vu64 0), .v (vu64 0)]) [] else (∀ M : Mem, (0 : Int) ≤ co ∧ co < (↑s.2.length : Int)) ∧ (∀ M : Mem, Int.toNat co < List.length s.2) ∧ (∀ M : Mem, Int.toNat co < List.length s.2) ∧ bif decide ((↑(List.length (gT s.2 (Int.toNat co))) : Int) ≤ ro) then (∀ M : Mem, 4 ≤ 4) ∧ R (.agg [.v (vu64 0), .v (vu64 0), .v (vu64 0), .v (vu64 0)]) [] else (∀ M : Mem, (0 : Int) ≤ co ∧ co < (↑s.2.length : Int)) ∧ (∀ M : Mem, Int.toNat co < List.length s.2) ∧ (∀ M : Mem, Int.toNat co < List.length s.2) ∧ (∀ M : Mem, (0 : Int) ≤ ro ∧ ro < (↑(List.length (gT s.2 (Int.toNat co))) : Int)) ∧ (∀ M : Mem, Int.toNat co < List.length s.2) ∧ (∀ M : Mem, Int.toNat ro < List.length (gT s.2 (Int.toNat co))) ∧ (∀ M : Mem, 0 + 4 ≤ 4) ∧ R ((eS (gE (gT s.2 (Int.toNat co)) (Int.toNat ro)))) [] else bif kd == (4 : Int) then bif decide (co < (0 : Int)) then (∀ M : Mem, 4 ≤ 4) ∧ R (.agg [.v (vu64 0), .v (vu64 0), .v (vu64 0), .v (vu64 0)]) [] else bif decide ((↑s.3.length : Int) ≤ co) then (∀ M : Mem, 4 ≤ 4) ∧ R (.agg [.v (vu64 0), .v (vu64 0), .v (vu64 0), .v (vu64 0)]) [] else bif decide (ro < (0 : Int)) then (∀ M : Mem, 4 ≤ 4) ∧ R (.agg [.v (vu64 0), .v (vu64 0), .v (vu64 0), .v (vu64 0)]) [] else (∀ M : Mem, (0 : Int) ≤ co ∧ co < (↑s.3.length : Int)) ∧ (∀ M : Mem, Int.toNat co < List.length s.3) ∧ (∀ M : Mem, Int.toNat co < List.length s.3) ∧ bif decide ((↑(List.length (gT s.3 (Int.toNat co))) : Int) ≤ ro) then (∀ M : Mem, 4 ≤ 4) ∧ R (.agg [.v (vu64 0), .v (vu64 0), .v (vu64 0), .v (vu64 0)]) [] else (∀ M : Mem, (0 : Int) ≤ co ∧ co < (↑s.3.length : Int)) ∧ (∀ M : Mem, Int.toNat co < List.length s.3) ∧ (∀ M : Mem, Int.toNat co < List.length s.3) ∧ (∀ M : Mem, (0 : Int) ≤ ro ∧ ro < (↑(List.length (gT s.3 (Int.toNat co))) : Int)) ∧ (∀ M : Mem, Int.toNat co < List.length s.3) ∧ (∀ M : Mem, Int.toNat ro < List.length (gT s.3 (Int.toNat co))) ∧ (∀ M : Mem, 0 + 4 ≤ 4) ∧ R ((eS (gE (gT s.3 (Int.toNat co)) (Int.toNat ro)))) [] else bif decide (co < (0 : Int)) then (∀ M : Mem, 4 ≤ 4) ∧ R (.agg [.v (vu64 0), .v (vu64 0), .v (vu64 0), .v (vu64 0)]) [] else bif decide ((0 : Int) ≤ co) then (∀ M : Mem, 4 ≤ 4) ∧ R (.agg [.v (vu64 0), .v (vu64 0), .v (vu64 0), .v (vu64 0)]) [] else bif decide (ro < (0 : Int)) then (∀ M : Mem, 4 ≤ 4) ∧ R (.agg [.v (vu64 0), .v (vu64 0), .v (vu64 0), .v (vu64 0)]) [] else (∀ M : Mem, (0 : Int) ≤ co ∧ co < (0 : Int)) ∧ K [It.ops [0,0,1,1,1] 17, .at [1,0,1,1,1], .at [1,1,1,1]] (St.mk [(40, SV.q 6 (Int.toNat co * 1)), (39, .v (vi64 co)), (38, .o 6), (37, .v (vi64 ro)), (36, .bl false), (35, .v (.bool (decide (ro < (0 : Int))))), (34, .v (.bool (decide (ro < (0 : Int))))), (33, .v (vi64 ro)), (32, .bl false), (31, .v (.bool (decide ((0 : Int) ≤ co)))), (30, .v (.bool (decide ((0 : Int) ≤ co)))), (29, .v (vi64 0)), (28, .o 6), (27, .v (vi64 co)), (26, .bl false), (25, .v (.bool (decide (co < (0 : Int))))), (24, .v (vi64 co)), (20, .bl false), (21, .v (.bool (kd == (4 : Int)))), (16, .bl false), (17, .v (.bool (kd == (3 : Int)))), (12, .bl false), (13, .v (.bool (kd == (2 : Int)))), (11, .v (vi64 kd)), (9, .o 6), (10, .o 6), (8, .p 5 0), (4, .p 4 0), (0, .agg [.x 0 [], .x 1 [], .x 2 [], .x 3 []]), (1, .v (vi64 kd)), (2, .v (vi64 co)), (3, .v (vi64 ro))] [.ext false (.s false 1 s.1.length (cT s.1)), .ext false (.s false 1 s.2.length (cT s.2)), .ext false (.s false 1 s.3.length (cT s.3)), .ext false (.s false 4 s.4.length (cP s.4)), .cells [.x 0 [], .x 1 [], .x 2 [], .x 3 []] 42, .cells [.v (vu64 0), .v (vu64 0), .v (vu64 0), .v (vu64 0)] 53, HO.row 67 1 0 []])) := by kernel_rfl
theorem at_fin {co ro : Int} {Q : SV → List HO → Prop} (t : List (List Nat)) (hq : Q (eS (atT t co ro)) []) : (bif decide (co < (0 : Int)) then (∀ (M : Mem), 4 ≤ 4) ∧ Q (.agg [.v (vu64 0), .v (vu64 0), .v (vu64 0), .v (vu64 0)]) [] else bif decide ((t.length : Int) ≤ co) then (∀ (M : Mem), 4 ≤ 4) ∧ Q (.agg [.v (vu64 0), .v (vu64 0), .v (vu64 0), .v (vu64 0)]) [] else bif decide (ro < (0 : Int)) then (∀ (M : Mem), 4 ≤ 4) ∧ Q (.agg [.v (vu64 0), .v (vu64 0), .v (vu64 0), .v (vu64 0)]) [] else (∀ (M : Mem), (0 : Int) ≤ co ∧ co < (t.length : Int)) ∧ (∀ (M : Mem), Int.toNat co < t.length) ∧ (∀ (M : Mem), Int.toNat co < t.length) ∧ bif decide (((gT t (Int.toNat co)).length : Int) ≤ ro) then (∀ (M : Mem), 4 ≤ 4) ∧ Q (.agg [.v (vu64 0), .v (vu64 0), .v (vu64 0), .v (vu64 0)]) [] else (∀ (M : Mem), (0 : Int) ≤ co ∧ co < (t.length : Int)) ∧ (∀ (M : Mem), Int.toNat co < t.length) ∧ (∀ (M : Mem), Int.toNat co < t.length) ∧ (∀ (M : Mem), (0 : Int) ≤ ro ∧ ro < ((gT t (Int.toNat co)).length : Int)) ∧ (∀ (M : Mem), Int.toNat co < t.length) ∧ (∀ (M : Mem), Int.toNat ro < (gT t (Int.toNat co)).length) ∧ (∀ (M : Mem), 0 + 4 ≤ 4) ∧ Q (eS (gE (gT t (Int.toNat co)) (Int.toNat ro))) []) := by
  simp only [cond_dec, ← eS_zero]
  refine ite_intro (fun h => ?_) (fun h => ite_intro (fun h2 => ?_) (fun h2 => ite_intro (fun h3 => ?_) (fun h3 => ?_)))
  · rw [atT_neg (.inl h)] at hq; exact ⟨fun _ => by omega, hq⟩
  · rw [atT_col h2] at hq; exact ⟨fun _ => by omega, hq⟩
  · rw [atT_neg (.inr h3)] at hq; exact ⟨fun _ => by omega, hq⟩
  refine And.intro (fun _ => by omega) (And.intro (fun _ => by omega) (And.intro (fun _ => by omega) (ite_intro (fun h4 => ?_) (fun h4 => ?_))))
  · rw [atT_row h4] at hq; exact ⟨fun _ => by omega, hq⟩
  · rw [atT_in h h3] at hq
    exact And.intro (fun _ => by omega) (And.intro (fun _ => by omega) (And.intro (fun _ => by omega) (And.intro (fun _ => by omega) (And.intro (fun _ => by omega) (And.intro (fun _ => by omega) (And.intro (fun _ => by omega) hq))))))
theorem bRat : Tryz.f24.body.isSome = true := by kernel_rfl
theorem nRat (kd co ro : Int) : Nat.ble [(.agg [.x 0 [], .x 1 [], .x 2 [], .x 3 []] : SV), .v (.int .i64 kd), .v (.int .i64 co), .v (.int .i64 ro)].length Tryz.f24.ntmps = true := by kernel_rfl
theorem rat13_ok (s : Sht) (kd co ro : Int) (Q : SV → List HO → Prop) (hq : Q (eS (atS s kd co ro)) []) : FnOk Tryz.prog 24 [.agg [.x 0 [], .x 1 [], .x 2 [], .x 3 []], .v (.int .i64 kd), .v (.int .i64 co), .v (.int .i64 ro)] [.ext false (.s false 1 s.fx.length (cT s.fx)), .ext false (.s false 1 s.ad.length (cT s.ad)), .ext false (.s false 1 s.is.length (cT s.is)), .ext false (.s false 4 s.cp.length (cP s.cp))] Q := by
  refine fn_of_ok Tryz.func24 bRat ?_ ?_
  · exact nRat kd co ro
  refine run_sound hm 60 ((ratS s kd co ro _ _).mpr ⟨?_⟩)
  rw [atS, tabS] at hq
  rw [cond_beq]
  refine ite_intro (fun h2 => at_fin s.fx (by rw [if_pos h2] at hq; exact hq)) (fun h2 => ?_)
  rw [if_neg h2] at hq
  rw [cond_beq]
  refine ite_intro (fun h3 => at_fin s.ad (by rw [if_pos h3] at hq; exact hq)) (fun h3 => ?_)
  rw [if_neg h3] at hq
  rw [cond_beq]
  refine ite_intro (fun h4 => at_fin s.is (by rw [if_pos h4] at hq; exact hq)) (fun h4 => ?_)
  rw [if_neg h4] at hq
  have e : atT [] co ro = 0 := by
    rw [atT]; split
    · rfl
    · exact gE_out (Nat.zero_le _)
  rw [e] at hq
  simp only [cond_dec, ← eS_zero]
  refine ite_intro (fun h => ⟨fun _ => by omega, hq⟩) (fun h => ite_intro (fun h2 => ⟨fun _ => by omega, hq⟩) (fun h2 => absurd h2 (by omega)))
noncomputable def gRat : List SV → List HO → Option ((SV → List HO → Prop) → Prop)
  | [.agg [.x 0 [], .x 1 [], .x 2 [], .x 3 []], .v (.int .i64 kd), .v (.int .i64 co), .v (.int .i64 ro)], [.ext false (.s false 1 n0 c0), .ext false (.s false 1 n1 c1), .ext false (.s false 1 n2 c2), .ext false (.s false 4 n3 c3)] =>
    some fun Q => lS n0 n1 n2 n3 c0 c1 c2 c3 fun s => Q (eS (atS s kd co ro)) []
  | _, _ => none
theorem gRat_ok (args : List SV) (h : List HO) (tr : (SV → List HO → Prop) → Prop) (Q : SV → List HO → Prop) (hc : gRat args h = some tr) (ht : tr Q) : FnOk Tryz.prog 24 args h Q := by
  unfold gRat at hc
  split at hc
  · simp only [Option.some.injEq] at hc
    subst hc
    obtain ⟨s, ⟨rfl, e0⟩, ⟨rfl, e1⟩, ⟨rfl, e2⟩, ⟨rfl, e3⟩, hs, hq⟩ := ht.h
    exact FnOk.ac (rat13_ok s _ _ _ Q hq) ⟨⟨rfl, rfl, rfl, rfl, e0⟩, ⟨rfl, rfl, rfl, rfl, e1⟩, ⟨rfl, rfl, rfl, rfl, e2⟩, ⟨rfl, rfl, rfl, rfl, e3⟩, trivial⟩
  · cases hc
theorem rsh_loop (b : Bool) (l : List (List Nat)) (hl : l.length ≤ 17592186043904) (u : Int) (Q : SV → List HO → Prop) (hq : Q (.v (.bool (!l.any (longB u)))) []) : ∀ (d k : Nat), k + d = l.length → (l.take k).any (longB u) = false →
    FOk Tryz.prog Tryz.f57 Q (.rnd [0,0,1,0,1,1] (d + 1) :: [.blk 0, .at [1,1,1]]) ⟨[(7, .v (.int .i64 (k : Int))), (0, .x 0 []), (2, .v (.int .i64 u))], [.ext b (.s false 1 l.length (cT l))]⟩
  | 0, k, hd, he => by
    refine FOk.rnd (run_sound hm 60 ((rshR b l u k 0 _ _).mpr ⟨?_⟩))
    rw [cond_dec, if_neg (by omega)]
    rw [List.take_of_length_le (by omega)] at he
    rw [he] at hq
    exact hq
  | d + 1, k, hd, he => by
    have hk : k < l.length := by omega
    refine FOk.rnd (run_sound hm 60 ((rshR b l u k (d + 1) _ _).mpr ⟨?_⟩))
    rw [cond_dec, if_pos (by omega), wrap_inc _ (by omega)]
    refine And.intro (fun _ => by omega) (And.intro (fun _ => by omega) (And.intro (fun _ => by omega) ?_))
    show bif longB u (gT l k) then _ else _
    refine cond_intro (fun h => ?_) (fun h => ?_)
    · rw [List.any_eq_true.2 ⟨_, gT_mem hk, h⟩] at hq
      exact hq
    · exact rsh_loop b l hl u Q hq d (k + 1) (by omega) (by rw [take_gT hk, List.any_append, he, List.any_cons, h]; rfl)
theorem bRsh : Tryz.f57.body.isSome = true := by kernel_rfl
theorem nRsh (n u : Int) : Nat.ble [SV.x 0 [], .v (.int .i64 n), .v (.int .i64 u)].length Tryz.f57.ntmps = true := by kernel_rfl
theorem rsh_ok (b : Bool) (l : List (List Nat)) (hl : l.length ≤ 17592186043904) (n u : Int) (Q : SV → List HO → Prop) (hq : Q (.v (.bool (!wrT n u l))) []) : FnOk Tryz.prog 57 [.x 0 [], .v (.int .i64 n), .v (.int .i64 u)] [.ext b (.s false 1 l.length (cT l))] Q := by
  refine fn_of_ok Tryz.func57 bRsh ?_ ?_
  · exact nRsh n u
  refine run_sound hm 60 ((rshS b l n u _ _).mpr ⟨?_⟩)
  rw [wrT] at hq
  refine cond_intro (fun h => ?_) (fun h => ?_)
  · rw [h] at hq; exact hq
  · rw [h, Bool.false_or] at hq
    exact FOk.loop (l.length + 1) (by kernel_rfl) (rsh_loop b l hl u Q hq l.length 0 (by omega) rfl)
noncomputable def gRsh : List SV → List HO → Option ((SV → List HO → Prop) → Prop)
  | [.x 0 [], .v (.int .i64 n), .v (.int .i64 u)], [.ext _ (.s false 1 m c)] => some fun Q => lT m c fun l => Q (.v (.bool (!wrT n u l))) []
  | _, _ => none
theorem gRsh_ok (args : List SV) (h : List HO) (tr : (SV → List HO → Prop) → Prop) (Q : SV → List HO → Prop) (hc : gRsh args h = some tr) (ht : tr Q) : FnOk Tryz.prog 57 args h Q := by
  unfold gRsh at hc
  split at hc
  · simp only [Option.some.injEq] at hc
    subst hc
    obtain ⟨l, rfl, he, hb, hq⟩ := ht.h
    have := hb.2
    exact FnOk.ac (rsh_ok _ l (by omega) _ _ Q hq) ⟨⟨rfl, rfl, rfl, rfl, he⟩, trivial⟩
  · cases hc
noncomputable def K88 : Con Tryz.prog := (K82.add 24 gRat gRat_ok).add 57 gRsh gRsh_ok
end Go.Proofs.YtlmjdcbhpffanaaGreat
/- The statements' first line: plain. -/
namespace Go.Pl
open Go.Sx
def alD : Cir := ⟨0, 1, 0, [⟨3, 0, 0, 0⟩, ⟨3, 0, 1, 0⟩, ⟨5, 1, 0, 0⟩, ⟨6, 0, 2, 0⟩], [3], [], []⟩
def alSh : Sht := ⟨[], [[1, 1, 2]], [], []⟩
theorem alD_ok : alD.ok where
  f := by unfold i64; simp only [alD]; omega
  a := by unfold i64; simp only [alD]; omega
  i := by unfold i64; simp only [alD]; omega
  n := by
    refine ⟨?_, by decide⟩
    intro x hx
    simp only [alD, List.mem_cons, List.not_mem_nil, or_false] at hx
    rcases hx with rfl | rfl | rfl | rfl <;> simp only [top, i64] <;> omega
  g := by
    refine ⟨?_, by decide⟩
    intro x hx
    simp only [alD, List.mem_singleton] at hx
    subst hx
    unfold i64; omega
  l := by refine ⟨?_, by decide⟩; intro x hx; cases hx
  e := by refine ⟨?_, by decide⟩; intro x hx; cases hx
theorem alSh_ok : alSh.ok where
  f := ⟨fun x hx => (by cases hx), by decide⟩
  a := by
    refine ⟨?_, by decide⟩
    intro x hx
    simp only [alSh, List.mem_singleton] at hx
    subst hx
    refine ⟨?_, by decide⟩
    intro v hv
    simp only [List.mem_cons, List.not_mem_nil, or_false] at hv
    rcases hv with rfl | rfl | rfl <;> simp only [top] <;> omega
  i := ⟨fun x hx => (by cases hx), by decide⟩
  c := ⟨fun x hx => (by cases hx), by decide⟩
theorem alD_n : IsC 4 7 (lc 7 [Cell.v (vi64 (3 : Int)), Cell.v (vi64 (0 : Int)), Cell.v (vi64 (0 : Int)), Cell.v (vu64 (0 : Int)), Cell.v (vu64 (0 : Int)), Cell.v (vu64 (0 : Int)), Cell.v (vu64 (0 : Int)), Cell.v (vi64 (3 : Int)), Cell.v (vi64 (0 : Int)), Cell.v (vi64 (1 : Int)), Cell.v (vu64 (0 : Int)), Cell.v (vu64 (0 : Int)), Cell.v (vu64 (0 : Int)), Cell.v (vu64 (0 : Int)), Cell.v (vi64 (5 : Int)), Cell.v (vi64 (1 : Int)), Cell.v (vi64 (0 : Int)), Cell.v (vu64 (0 : Int)), Cell.v (vu64 (0 : Int)), Cell.v (vu64 (0 : Int)), Cell.v (vu64 (0 : Int)), Cell.v (vi64 (6 : Int)), Cell.v (vi64 (0 : Int)), Cell.v (vi64 (2 : Int)), Cell.v (vu64 (0 : Int)), Cell.v (vu64 (0 : Int)), Cell.v (vu64 (0 : Int)), Cell.v (vu64 (0 : Int))]) (cN alD.nodes) := by
  intro k hk j hj
  have hk' : k = 0 ∨ k = 1 ∨ k = 2 ∨ k = 3 := by omega
  have hj' : j = 0 ∨ j = 1 ∨ j = 2 ∨ j = 3 ∨ j = 4 ∨ j = 5 ∨ j = 6 := by omega
  rcases hk' with rfl | rfl | rfl | rfl <;> rcases hj' with rfl | rfl | rfl | rfl | rfl | rfl | rfl <;> simp [lc, cN, gN, alD, ndCell, limb_zero]
theorem alD_g : IsC 1 1 (lc 1 [Cell.v (vi64 (3 : Int))]) (cI alD.gates) := by
  intro k hk j hj
  have hk' : k = 0 := by omega
  have hj' : j = 0 := by omega
  subst hk' hj'
  rfl
theorem alSh_e : IsC 3 4 (lc 4 [Cell.v (vu64 (1 : Int)), Cell.v (vu64 (0 : Int)), Cell.v (vu64 (0 : Int)), Cell.v (vu64 (0 : Int)), Cell.v (vu64 (1 : Int)), Cell.v (vu64 (0 : Int)), Cell.v (vu64 (0 : Int)), Cell.v (vu64 (0 : Int)), Cell.v (vu64 (2 : Int)), Cell.v (vu64 (0 : Int)), Cell.v (vu64 (0 : Int)), Cell.v (vu64 (0 : Int))]) (cE [1, 1, 2]) := by
  obtain ⟨a0, a1, a2, a3⟩ := limb_lit 1 (by omega)
  obtain ⟨b0, b1, b2, b3⟩ := limb_lit 2 (by omega)
  intro k hk j hj
  have hk' : k = 0 ∨ k = 1 ∨ k = 2 := by omega
  have hj' : j = 0 ∨ j = 1 ∨ j = 2 ∨ j = 3 := by omega
  rcases hk' with rfl | rfl | rfl <;> rcases hj' with rfl | rfl | rfl | rfl <;> simp [lc, cE, gE, a0, a1, a2, a3, b0, b1, b2, b3]
theorem alSh_a : IsC 1 1 (lc 1 [Cell.s false 4 3 (cE [1, 1, 2])]) (cT alSh.ad) := by
  intro k hk j hj
  have hk' : k = 0 := by omega
  have hj' : j = 0 := by omega
  subst hk' hj'
  rfl
theorem al_fl : IsC 2 3 (lc 3 [Cell.v (vi64 (1 : Int)), Cell.v (vi64 (0 : Int)), Cell.v (vi64 (1 : Int)), Cell.v (vi64 (1 : Int)), Cell.v (vi64 (0 : Int)), Cell.v (vi64 (2 : Int))]) (cQ [(1, 0, 1), (1, 0, 2)]) := by
  intro k hk j hj
  have hk' : k = 0 ∨ k = 1 := by omega
  have hj' : j = 0 ∨ j = 1 ∨ j = 2 := by omega
  rcases hk' with rfl | rfl <;> rcases hj' with rfl | rfl | rfl <;> rfl
theorem fNg_0 (b : Nat) : fNg 0 b = (16513537 - b % 16513537) % 16513537 := by
  rw [fNg, if_neg (by rw [fP_0]; omega), fN_eq, fP_0]
theorem fAdd_0 (a b : Nat) : fAd 0 a b = (a + b) % 16513537 := by
  rw [fAd, if_neg (by rw [fP_0]; omega), fA_eq, fP_0]
theorem alD_v (a b : Nat) (ha : a < 16513537) (hb : b < 16513537) : vlR 0 [(3, 0, 0), (3, 0, 1)] [a, b] alD.nodes = ([a, b, fNg 0 b, fAd 0 a (fNg 0 b)], 0) := by
  have ho : ordN 0 alD.nodes = true := by decide
  have hn : fNg 0 b < 16513537 := by rw [fNg_0]; omega
  have hz : fAd 0 a (fNg 0 b) < 16513537 := by rw [fAdd_0]; omega
  rw [vlR, if_neg (by rw [fP_0]; omega), if_neg (by rw [ho]; simp), if_neg (by simp)]
  have h1 : valD 0 [(3, 0, 0), (3, 0, 1)] [a, b] [] ⟨3, 0, 0, 0⟩ = some a := by
    rw [valD_q _ _ _ _ (by simp)]; rfl
  have h2 : valD 0 [(3, 0, 0), (3, 0, 1)] [a, b] [a] ⟨3, 0, 1, 0⟩ = some b := by
    rw [valD_q _ _ _ _ (by simp)]; rfl
  have h3 : valD 0 [(3, 0, 0), (3, 0, 1)] [a, b] [a, b] ⟨5, 1, 0, 0⟩ = some (fNg 0 b) := valD_n _ _ _ _ rfl
  have h4 : valD 0 [(3, 0, 0), (3, 0, 1)] [a, b] [a, b, fNg 0 b] ⟨6, 0, 2, 0⟩ = some (fAd 0 a (fNg 0 b)) := valD_a _ _ _ _ rfl
  have e : valsN 0 [(3, 0, 0), (3, 0, 1)] [a, b] [] alD.nodes = some [a, b, fNg 0 b, fAd 0 a (fNg 0 b)] := by
    rw [alD, valsN_some h1, fAd_0 a ha, List.nil_append, valsN_some h2, fAd_0 b hb]
    rw [show [a] ++ [b] = [a, b] from rfl, valsN_some h3, fAd_0 _ hn, show [a, b] ++ [fNg 0 b] = [a, b, fNg 0 b] from rfl, valsN_some h4, fAd_0 _ hz, valsN]
    rfl
  rw [e]
theorem alD_q : qsN [] alD.nodes = [(3, 0, 0), (3, 0, 1)] := by decide +kernel
theorem alD_row (r : Int) (a b : Nat) (ha : a < 16513537) (hb : b < 16513537) (h : atQ alSh 3 r [(3, 0, 0), (3, 0, 1)] = [a, b]) : gE (rowV alD alSh 0 3 (qsN [] alD.nodes) r) 3 = (a + (16513537 - b % 16513537) % 16513537) % 16513537 := by
  rw [rowV, alD_q, h, alD_v a b ha hb]
  show fAd 0 a (fNg 0 b) = _
  rw [fAdd_0, fNg_0]
theorem eI_no {v : Nat} (h : v < top) (h2 : v ≠ 0) : decide (eI v = [(0 : Int), (0 : Int), (0 : Int), (0 : Int)]) = false :=
  decide_eq_false fun hh => h2 (eI_inj h (by simp only [top]; omega) (hh.trans eI_zero.symm))
theorem dz {x v : Nat} {b : Bool} (e : x = v) (h : decide (eI v = [(0 : Int), (0 : Int), (0 : Int), (0 : Int)]) = b) : decide (eI x = [(0 : Int), (0 : Int), (0 : Int), (0 : Int)]) = b := by
  subst e; exact h
theorem al_flt : fltR alD alSh 0 3 = ([(1, 0, 1), (1, 0, 2)], 0) := by
  have h1 : fE 0 = 0 := (fE_zero 0).2 (by rw [fP_0]; omega)
  have h2 : fitV alD 3 alSh = 0 := by decide +kernel
  have h3 : rowsV alD 3 3 = (0, 3) := by decide +kernel
  have h4 : (usN 3).toNat = 4 := by decide +kernel
  have r0 := alD_row 0 1 1 (by omega) (by omega) (by decide +kernel)
  have r1 := alD_row 1 1 2 (by omega) (by omega) (by decide +kernel)
  have r2 := alD_row 2 2 0 (by omega) (by omega) (by decide +kernel)
  have er : rowsA alD alSh 0 3 4 = [rowV alD alSh 0 3 (qsN [] alD.nodes) 0, rowV alD alSh 0 3 (qsN [] alD.nodes) 1, rowV alD alSh 0 3 (qsN [] alD.nodes) 2, rowV alD alSh 0 3 (qsN [] alD.nodes) 3] := rfl
  have t0 : (2 : Nat) < top := by simp only [top]; omega
  rw [fltR, if_neg (fun h => h h1), if_neg (fun h => h h2), fltV, h4, er]
  show ((gatesF alD 3 _ 0 [3] ++ ([] ++ [])), (0 : Int)) = _
  rw [gatesF, h3, gatesF, show ((0 : Int), (3 : Int)).2 - ((0 : Int), (3 : Int)).1 = 3 from rfl, show (3 : Int).toNat = 3 from rfl, gateR, gateR, gateR, gateR]
  have e0 : decide (eI (gE (gT [rowV alD alSh 0 3 (qsN [] alD.nodes) 0, rowV alD alSh 0 3 (qsN [] alD.nodes) 1, rowV alD alSh 0 3 (qsN [] alD.nodes) 2, rowV alD alSh 0 3 (qsN [] alD.nodes) 3] (Int.toNat 0)) (Int.toNat 3)) = [(0 : Int), (0 : Int), (0 : Int), (0 : Int)]) = true := by
    exact dz r0 (decide_eq_true eI_zero)
  have e1 : decide (eI (gE (gT [rowV alD alSh 0 3 (qsN [] alD.nodes) 0, rowV alD alSh 0 3 (qsN [] alD.nodes) 1, rowV alD alSh 0 3 (qsN [] alD.nodes) 2, rowV alD alSh 0 3 (qsN [] alD.nodes) 3] (Int.toNat (0 + 1))) (Int.toNat 3)) = [(0 : Int), (0 : Int), (0 : Int), (0 : Int)]) = false := by
    exact dz r1 (eI_no (by simp only [top]; omega) (by omega))
  have e2 : decide (eI (gE (gT [rowV alD alSh 0 3 (qsN [] alD.nodes) 0, rowV alD alSh 0 3 (qsN [] alD.nodes) 1, rowV alD alSh 0 3 (qsN [] alD.nodes) 2, rowV alD alSh 0 3 (qsN [] alD.nodes) 3] (Int.toNat (0 + 1 + 1))) (Int.toNat 3)) = [(0 : Int), (0 : Int), (0 : Int), (0 : Int)]) = false := by
    exact dz r2 (eI_no (by simp only [top]; omega) (by omega))
  show ((bif decide (eI (gE (gT _ (Int.toNat 0)) (Int.toNat 3)) = _) then [] else _) ++ ((bif decide (eI (gE (gT _ (Int.toNat (0 + 1))) (Int.toNat 3)) = _) then [] else _) ++ ((bif decide (eI (gE (gT _ (Int.toNat (0 + 1 + 1))) (Int.toNat 3)) = _) then [] else _) ++ [])) ++ [] ++ ([] ++ []), (0 : Int)) = _
  rw [e0, e1, e2]
  rfl
end Go.Pl
namespace Go.Proofs.YtlmjdcbhpffanaaGreat
open Go.Sx Go.Pl
set_option linter.unusedVariables false
set_option maxRecDepth 100000
end Go.Proofs.YtlmjdcbhpffanaaGreat
/- The statements' first line. -/
namespace Go.Proofs.YtlmjdcbhpffanaaGreat
open Go.Sx Go.Pl
set_option linter.unusedVariables false
set_option maxRecDepth 100000
theorem al13S  (K : List It → St → Prop) (R : SV → List HO → Prop) : W (xwp Tryz.prog X K82 [] 60 (fxOf Tryz.f18 [] []) [] [.at []] ⟨argsS 0 [], []⟩ K R) = W ((∀ M : Mem, 7 ≤ 7) ∧ K [It.ops [0,1,1] 7, .at [1,1,1]] (St.mk [(18, .agg [.v (Value.slice none 0 0), .o 4, .v (Value.slice none 0 0), .v (Value.slice none 0 0)]), (17, .o 4), (16, .o 3), (15, .agg [.v (vu64 2), .v (vu64 0), .v (vu64 0), .v (vu64 0)]), (14, .agg [.v (vu64 1), .v (vu64 0), .v (vu64 0), .v (vu64 0)]), (13, .agg [.v (vu64 1), .v (vu64 0), .v (vu64 0), .v (vu64 0)]), (12, .agg [.v (vi64 0), .v (vi64 1), .v (vi64 0), .o 0, .o 1, .v (Value.slice none 0 0), .v (Value.slice none 0 0)]), (1, .p 2 0), (10, .agg [.v (vi64 0), .v (vi64 1), .v (vi64 0), .o 0, .o 1, .v (Value.slice none 0 0), .v (Value.slice none 0 0)]), (9, .o 1), (8, .o 0), (7, .agg [.v (vi64 6), .v (vi64 0), .v (vi64 2), .v (vu64 0), .v (vu64 0), .v (vu64 0), .v (vu64 0)]), (6, .agg [.v (vi64 5), .v (vi64 1), .v (vi64 0), .v (vu64 0), .v (vu64 0), .v (vu64 0), .v (vu64 0)]), (5, .agg [.v (vi64 3), .v (vi64 0), .v (vi64 1), .v (vu64 0), .v (vu64 0), .v (vu64 0), .v (vu64 0)]), (4, .agg [.v (vi64 3), .v (vi64 0), .v (vi64 0), .v (vu64 0), .v (vu64 0), .v (vu64 0), .v (vu64 0)]), (0, .v (.bool false))] [HO.row 109 7 4 [.v (vi64 3), .v (vi64 0), .v (vi64 0), .v (vu64 0), .v (vu64 0), .v (vu64 0), .v (vu64 0), .v (vi64 3), .v (vi64 0), .v (vi64 1), .v (vu64 0), .v (vu64 0), .v (vu64 0), .v (vu64 0), .v (vi64 5), .v (vi64 1), .v (vi64 0), .v (vu64 0), .v (vu64 0), .v (vu64 0), .v (vu64 0), .v (vi64 6), .v (vi64 0), .v (vi64 2), .v (vu64 0), .v (vu64 0), .v (vu64 0), .v (vu64 0)], HO.row 3 1 1 [.v (vi64 3)], .cells [.v (vi64 0), .v (vi64 1), .v (vi64 0), .o 0, .o 1, .v (Value.slice none 0 0), .v (Value.slice none 0 0)] 27, HO.row 53 4 3 [.v (vu64 1), .v (vu64 0), .v (vu64 0), .v (vu64 0), .v (vu64 1), .v (vu64 0), .v (vu64 0), .v (vu64 0), .v (vu64 2), .v (vu64 0), .v (vu64 0), .v (vu64 0)], HO.row 67 1 1 [.o 3]])) := by kernel_rfl
theorem al13R  (K : List It → St → Prop) (R : SV → List HO → Prop) : W (xwp Tryz.prog X K82 [] 60 (fxOf Tryz.f18 [] []) [] (.ops [0,1,1] 7 :: [.at [1,1,1]]) (St.mk [(18, .agg [.x 0 [], .x 1 [], .x 2 [], .x 3 []]), (12, .agg [.v (vi64 0), .v (vi64 1), .v (vi64 0), .x 4 [], .x 5 [], .x 6 [], .x 7 []]), (0, .v (.bool false))] [.ext false (.s false 1 0 (cT [])), .ext false (.s false 1 1 (lc 1 [.s false 4 3 (cE [1,1,2])])), .ext false (.s false 1 0 (cT [])), .ext false (.s false 4 0 (cP [])), .ext false (.s false 7 4 (lc 7 [.v (vi64 3), .v (vi64 0), .v (vi64 0), .v (vu64 0), .v (vu64 0), .v (vu64 0), .v (vu64 0), .v (vi64 3), .v (vi64 0), .v (vi64 1), .v (vu64 0), .v (vu64 0), .v (vu64 0), .v (vu64 0), .v (vi64 5), .v (vi64 1), .v (vi64 0), .v (vu64 0), .v (vu64 0), .v (vu64 0), .v (vu64 0), .v (vi64 6), .v (vi64 0), .v (vi64 2), .v (vu64 0), .v (vu64 0), .v (vu64 0), .v (vu64 0)])), .ext false (.s false 1 1 (lc 1 [.v (vi64 3)])), .ext false (.s false 2 0 (cL [])), .ext false (.s false 2 0 (cK []))]) K R) = W (lF (0 : Int) (1 : Int) (0 : Int) 4 1 0 0 0 1 0 0 (lc 7 [.v (vi64 3), .v (vi64 0), .v (vi64 0), .v (vu64 0), .v (vu64 0), .v (vu64 0), .v (vu64 0), .v (vi64 3), .v (vi64 0), .v (vi64 1), .v (vu64 0), .v (vu64 0), .v (vu64 0), .v (vu64 0), .v (vi64 5), .v (vi64 1), .v (vi64 0), .v (vu64 0), .v (vu64 0), .v (vu64 0), .v (vu64 0), .v (vi64 6), .v (vi64 0), .v (vi64 2), .v (vu64 0), .v (vu64 0), .v (vu64 0), .v (vu64 0)]) (lc 1 [.v (vi64 3)]) (cL []) (cK []) (cT []) (lc 1 [.s false 4 3 (cE [1,1,2])]) (cT []) (cP []) fun (c : Cir) (s : Sht) => bif (fltR c s (0 : Int) (3 : Int)).2 == (0 : Int) then lQ2 (List.length (fltR c s (0 : Int) (3 : Int)).1) 2 (cQ (fltR c s (0 : Int) (3 : Int)).1) (lc 3 [.v (vi64 1), .v (vi64 0), .v (vi64 1), .v (vi64 1), .v (vi64 0), .v (vi64 2)]) fun (l l2 : List (Int × Int × Int)) => R (.v (.bool (decide (l = l2)))) [] else R (.v (.bool false)) []) := by kernel_rfl
theorem bAl13 : Tryz.f18.body.isSome = true := by kernel_rfl
theorem nAl13 : Nat.ble ([] : List SV).length Tryz.f18.ntmps = true := by kernel_rfl
theorem al13_lF {k : Cir → Sht → Prop} (h : k alD alSh) : lF (0 : Int) (1 : Int) (0 : Int) 4 1 0 0 0 1 0 0 (lc 7 [Cell.v (vi64 (3 : Int)), Cell.v (vi64 (0 : Int)), Cell.v (vi64 (0 : Int)), Cell.v (vu64 (0 : Int)), Cell.v (vu64 (0 : Int)), Cell.v (vu64 (0 : Int)), Cell.v (vu64 (0 : Int)), Cell.v (vi64 (3 : Int)), Cell.v (vi64 (0 : Int)), Cell.v (vi64 (1 : Int)), Cell.v (vu64 (0 : Int)), Cell.v (vu64 (0 : Int)), Cell.v (vu64 (0 : Int)), Cell.v (vu64 (0 : Int)), Cell.v (vi64 (5 : Int)), Cell.v (vi64 (1 : Int)), Cell.v (vi64 (0 : Int)), Cell.v (vu64 (0 : Int)), Cell.v (vu64 (0 : Int)), Cell.v (vu64 (0 : Int)), Cell.v (vu64 (0 : Int)), Cell.v (vi64 (6 : Int)), Cell.v (vi64 (0 : Int)), Cell.v (vi64 (2 : Int)), Cell.v (vu64 (0 : Int)), Cell.v (vu64 (0 : Int)), Cell.v (vu64 (0 : Int)), Cell.v (vu64 (0 : Int))]) (lc 1 [Cell.v (vi64 (3 : Int))]) (cL []) (cK []) (cT []) (lc 1 [Cell.s false 4 3 (cE [1, 1, 2])]) (cT []) (cP []) k := by
  have := lF_mk alD alD_ok alSh alSh_ok h
  obtain ⟨c, e1, e2, e3, ⟨n0, i0⟩, ⟨n1, i1⟩, r2, r3, hk, ht2⟩ := this.h.h
  obtain ⟨s, q0, ⟨m1, j1⟩, q2, q3, hs, hq⟩ := ht2.h
  exact ⟨⟨c, e1, e2, e3, ⟨n0, alD_n.trans i0⟩, ⟨n1, alD_g.trans i1⟩, r2, r3, hk, ⟨⟨s, q0, ⟨m1, alSh_a.trans j1⟩, q2, q3, hs, hq⟩⟩⟩⟩
theorem al13_ok (Q : SV → List HO → Prop) (hq : Q (.v (.bool true)) []) : FnOk Tryz.prog 18 [] [] Q := by
  refine fn_of_ok Tryz.func18 bAl13 ?_ ?_
  · exact nAl13
  refine run_sound hm 60 ((al13S _ _).mpr ⟨And.intro (fun _ => Nat.le_refl 7) ?_⟩)
  refine FOk.norm (ks := [18,12,0]) (nl := []) (st' := (St.mk [(18, SV.agg [SV.v (Value.slice none 0 0), SV.o 0, SV.v (Value.slice none 0 0), SV.v (Value.slice none 0 0)]), (12, SV.agg [SV.v (vi64 (0 : Int)), SV.v (vi64 (1 : Int)), SV.v (vi64 (0 : Int)), SV.o 1, SV.o 2, SV.v (Value.slice none 0 0), SV.v (Value.slice none 0 0)]), (0, SV.v (Value.bool false))] [HO.row 67 1 1 [SV.o 3], HO.rowc 109 7 4 (Ct.lit 7 [Cell.v (vi64 (3 : Int)), Cell.v (vi64 (0 : Int)), Cell.v (vi64 (0 : Int)), Cell.v (vu64 (0 : Int)), Cell.v (vu64 (0 : Int)), Cell.v (vu64 (0 : Int)), Cell.v (vu64 (0 : Int)), Cell.v (vi64 (3 : Int)), Cell.v (vi64 (0 : Int)), Cell.v (vi64 (1 : Int)), Cell.v (vu64 (0 : Int)), Cell.v (vu64 (0 : Int)), Cell.v (vu64 (0 : Int)), Cell.v (vu64 (0 : Int)), Cell.v (vi64 (5 : Int)), Cell.v (vi64 (1 : Int)), Cell.v (vi64 (0 : Int)), Cell.v (vu64 (0 : Int)), Cell.v (vu64 (0 : Int)), Cell.v (vu64 (0 : Int)), Cell.v (vu64 (0 : Int)), Cell.v (vi64 (6 : Int)), Cell.v (vi64 (0 : Int)), Cell.v (vi64 (2 : Int)), Cell.v (vu64 (0 : Int)), Cell.v (vu64 (0 : Int)), Cell.v (vu64 (0 : Int)), Cell.v (vu64 (0 : Int))]), HO.rowc 3 1 1 (Ct.lit 1 [Cell.v (vi64 (3 : Int))]), HO.rowc 53 4 3 (Ct.lit 4 [Cell.v (vu64 (1 : Int)), Cell.v (vu64 (0 : Int)), Cell.v (vu64 (0 : Int)), Cell.v (vu64 (0 : Int)), Cell.v (vu64 (1 : Int)), Cell.v (vu64 (0 : Int)), Cell.v (vu64 (0 : Int)), Cell.v (vu64 (0 : Int)), Cell.v (vu64 (2 : Int)), Cell.v (vu64 (0 : Int)), Cell.v (vu64 (0 : Int)), Cell.v (vu64 (0 : Int))])])) (by kernel_rfl) ?_
  refine FOk.cv (h' := (St.heap (St.mk [(18, SV.agg [SV.v (Value.slice none 0 0), SV.o 0, SV.v (Value.slice none 0 0), SV.v (Value.slice none 0 0)]), (12, SV.agg [SV.v (vi64 (0 : Int)), SV.v (vi64 (1 : Int)), SV.v (vi64 (0 : Int)), SV.o 1, SV.o 2, SV.v (Value.slice none 0 0), SV.v (Value.slice none 0 0)]), (0, SV.v (Value.bool false))] [HO.row 67 1 1 [SV.o 3], HO.rowc 109 7 4 (Ct.lit 7 [Cell.v (vi64 (3 : Int)), Cell.v (vi64 (0 : Int)), Cell.v (vi64 (0 : Int)), Cell.v (vu64 (0 : Int)), Cell.v (vu64 (0 : Int)), Cell.v (vu64 (0 : Int)), Cell.v (vu64 (0 : Int)), Cell.v (vi64 (3 : Int)), Cell.v (vi64 (0 : Int)), Cell.v (vi64 (1 : Int)), Cell.v (vu64 (0 : Int)), Cell.v (vu64 (0 : Int)), Cell.v (vu64 (0 : Int)), Cell.v (vu64 (0 : Int)), Cell.v (vi64 (5 : Int)), Cell.v (vi64 (1 : Int)), Cell.v (vi64 (0 : Int)), Cell.v (vu64 (0 : Int)), Cell.v (vu64 (0 : Int)), Cell.v (vu64 (0 : Int)), Cell.v (vu64 (0 : Int)), Cell.v (vi64 (6 : Int)), Cell.v (vi64 (0 : Int)), Cell.v (vi64 (2 : Int)), Cell.v (vu64 (0 : Int)), Cell.v (vu64 (0 : Int)), Cell.v (vu64 (0 : Int)), Cell.v (vu64 (0 : Int))]), HO.rowc 3 1 1 (Ct.lit 1 [Cell.v (vi64 (3 : Int))]), HO.rowc 53 4 3 (Ct.fn (cE [1, 1, 2]))]))) ?_ ⟨HE.refl _, HE.refl _, HE.refl _, ⟨rfl, rfl, rfl, alSh_e⟩, trivial⟩
  refine FOk.frzH 3 rfl ?_
  refine FOk.norm (ks := [18,12,0]) (nl := []) (st' := (St.mk [(18, SV.agg [SV.v (Value.slice none 0 0), SV.o 0, SV.v (Value.slice none 0 0), SV.v (Value.slice none 0 0)]), (12, SV.agg [SV.v (vi64 (0 : Int)), SV.v (vi64 (1 : Int)), SV.v (vi64 (0 : Int)), SV.o 1, SV.o 2, SV.v (Value.slice none 0 0), SV.v (Value.slice none 0 0)]), (0, SV.v (Value.bool false))] [HO.rowc 67 1 1 (Ct.lit 1 [Cell.s false 4 3 (cE [1, 1, 2])]), HO.rowc 109 7 4 (Ct.lit 7 [Cell.v (vi64 (3 : Int)), Cell.v (vi64 (0 : Int)), Cell.v (vi64 (0 : Int)), Cell.v (vu64 (0 : Int)), Cell.v (vu64 (0 : Int)), Cell.v (vu64 (0 : Int)), Cell.v (vu64 (0 : Int)), Cell.v (vi64 (3 : Int)), Cell.v (vi64 (0 : Int)), Cell.v (vi64 (1 : Int)), Cell.v (vu64 (0 : Int)), Cell.v (vu64 (0 : Int)), Cell.v (vu64 (0 : Int)), Cell.v (vu64 (0 : Int)), Cell.v (vi64 (5 : Int)), Cell.v (vi64 (1 : Int)), Cell.v (vi64 (0 : Int)), Cell.v (vu64 (0 : Int)), Cell.v (vu64 (0 : Int)), Cell.v (vu64 (0 : Int)), Cell.v (vu64 (0 : Int)), Cell.v (vi64 (6 : Int)), Cell.v (vi64 (0 : Int)), Cell.v (vi64 (2 : Int)), Cell.v (vu64 (0 : Int)), Cell.v (vu64 (0 : Int)), Cell.v (vu64 (0 : Int)), Cell.v (vu64 (0 : Int))]), HO.rowc 3 1 1 (Ct.lit 1 [Cell.v (vi64 (3 : Int))])])) (by kernel_rfl) ?_
  refine FOk.frz 0 rfl (FOk.frz 1 rfl (FOk.frz 2 rfl ?_))
  refine FOk.norm (ks := [18,12,0]) (nl := []) (st' := (St.mk [(18, SV.agg [SV.v (Value.slice none 0 0), SV.x 0 [], SV.v (Value.slice none 0 0), SV.v (Value.slice none 0 0)]), (12, SV.agg [SV.v (vi64 (0 : Int)), SV.v (vi64 (1 : Int)), SV.v (vi64 (0 : Int)), SV.x 1 [], SV.x 2 [], SV.v (Value.slice none 0 0), SV.v (Value.slice none 0 0)]), (0, SV.v (Value.bool false))] [HO.ext false (Cell.s false 1 1 (lc 1 [Cell.s false 4 3 (cE [1, 1, 2])])), HO.ext false (Cell.s false 7 4 (lc 7 [Cell.v (vi64 (3 : Int)), Cell.v (vi64 (0 : Int)), Cell.v (vi64 (0 : Int)), Cell.v (vu64 (0 : Int)), Cell.v (vu64 (0 : Int)), Cell.v (vu64 (0 : Int)), Cell.v (vu64 (0 : Int)), Cell.v (vi64 (3 : Int)), Cell.v (vi64 (0 : Int)), Cell.v (vi64 (1 : Int)), Cell.v (vu64 (0 : Int)), Cell.v (vu64 (0 : Int)), Cell.v (vu64 (0 : Int)), Cell.v (vu64 (0 : Int)), Cell.v (vi64 (5 : Int)), Cell.v (vi64 (1 : Int)), Cell.v (vi64 (0 : Int)), Cell.v (vu64 (0 : Int)), Cell.v (vu64 (0 : Int)), Cell.v (vu64 (0 : Int)), Cell.v (vu64 (0 : Int)), Cell.v (vi64 (6 : Int)), Cell.v (vi64 (0 : Int)), Cell.v (vi64 (2 : Int)), Cell.v (vu64 (0 : Int)), Cell.v (vu64 (0 : Int)), Cell.v (vu64 (0 : Int)), Cell.v (vu64 (0 : Int))])), HO.ext false (Cell.s false 1 1 (lc 1 [Cell.v (vi64 (3 : Int))]))])) (by kernel_rfl) ?_
  refine FOk.nilA 12 5 2 (cL []) rfl rfl (FOk.nilA 12 6 2 (cK []) rfl rfl (FOk.nilA 18 0 1 (cT []) rfl rfl (FOk.nilA 18 2 1 (cT []) rfl rfl (FOk.nilA 18 3 4 (cP []) rfl rfl ?_))))
  refine FOk.norm (ks := [18,12,0]) (nl := []) (st' := (St.mk [(18, SV.agg [SV.x 0 [], SV.x 1 [], SV.x 2 [], SV.x 3 []]), (12, SV.agg [SV.v (vi64 (0 : Int)), SV.v (vi64 (1 : Int)), SV.v (vi64 (0 : Int)), SV.x 4 [], SV.x 5 [], SV.x 6 [], SV.x 7 []]), (0, SV.v (Value.bool false))] [HO.ext false (Cell.s false 1 0 (cT [])), HO.ext false (Cell.s false 1 1 (lc 1 [Cell.s false 4 3 (cE [1, 1, 2])])), HO.ext false (Cell.s false 1 0 (cT [])), HO.ext false (Cell.s false 4 0 (cP [])), HO.ext false (Cell.s false 7 4 (lc 7 [Cell.v (vi64 (3 : Int)), Cell.v (vi64 (0 : Int)), Cell.v (vi64 (0 : Int)), Cell.v (vu64 (0 : Int)), Cell.v (vu64 (0 : Int)), Cell.v (vu64 (0 : Int)), Cell.v (vu64 (0 : Int)), Cell.v (vi64 (3 : Int)), Cell.v (vi64 (0 : Int)), Cell.v (vi64 (1 : Int)), Cell.v (vu64 (0 : Int)), Cell.v (vu64 (0 : Int)), Cell.v (vu64 (0 : Int)), Cell.v (vu64 (0 : Int)), Cell.v (vi64 (5 : Int)), Cell.v (vi64 (1 : Int)), Cell.v (vi64 (0 : Int)), Cell.v (vu64 (0 : Int)), Cell.v (vu64 (0 : Int)), Cell.v (vu64 (0 : Int)), Cell.v (vu64 (0 : Int)), Cell.v (vi64 (6 : Int)), Cell.v (vi64 (0 : Int)), Cell.v (vi64 (2 : Int)), Cell.v (vu64 (0 : Int)), Cell.v (vu64 (0 : Int)), Cell.v (vu64 (0 : Int)), Cell.v (vu64 (0 : Int))])), HO.ext false (Cell.s false 1 1 (lc 1 [Cell.v (vi64 (3 : Int))])), HO.ext false (Cell.s false 2 0 (cL [])), HO.ext false (Cell.s false 2 0 (cK []))])) (by kernel_rfl) ?_
  refine run_sound hm 60 ((al13R _ _).mpr ⟨al13_lF ?_⟩)
  rw [al_flt]
  refine ⟨⟨_, [(1, 0, 1), (1, 0, 2)], rfl, IsC.refl _ _ _, rfl, al_fl, by decide, ?_⟩⟩
  rw [decide_eq_true rfl]
  exact hq
noncomputable def gAl13 : List SV → List HO → Option ((SV → List HO → Prop) → Prop)
  | [], [] => some fun Q => Q (.v (.bool true)) []
  | _, _ => none
theorem gAl13_ok (args : List SV) (h : List HO) (tr : (SV → List HO → Prop) → Prop) (Q : SV → List HO → Prop) (hc : gAl13 args h = some tr) (ht : tr Q) : FnOk Tryz.prog 18 args h Q := by
  unfold gAl13 at hc
  split at hc
  · simp only [Option.some.injEq] at hc
    subst hc
    exact al13_ok Q ht
  · cases hc
noncomputable def K83 : Con Tryz.prog := K82.add 18 gAl13 gAl13_ok
end Go.Proofs.YtlmjdcbhpffanaaGreat
/- The document's Fit. -/
namespace Go.Proofs.YtlmjdcbhpffanaaGreat
open Go.Sx Go.Pl
set_option linter.unusedVariables false
set_option maxRecDepth 100000
theorem rfiS (c : Cir) (s : Sht) (k : Int) (K : List It → St → Prop) (R : SV → List HO → Prop) : W (xwp Tryz.prog X K88 [] 60 (fxOf Tryz.f22 [([0,1,1,0,0,1,0,0,1,0,1,1,1,1,1,1], 3)] [⟨[0,1,0,1,1,1,1,1,1], [9,8,5,3], []⟩]) [] [.at []] ⟨argsS 0 [.agg [.v (.int .i64 c.fx), .v (.int .i64 c.ad), .v (.int .i64 c.ins), .x 0 [], .x 1 [], .x 2 [], .x 3 []], .v (.int .i64 k), .agg [.x 4 [], .x 5 [], .x 6 [], .x 7 []]], [.ext false (.s false 7 c.nodes.length (cN c.nodes)), .ext false (.s false 1 c.gates.length (cI c.gates)), .ext false (.s false 2 c.looks.length (cL c.looks)), .ext false (.s false 2 c.eqs.length (cK c.eqs)), .ext false (.s false 1 s.fx.length (cT s.fx)), .ext false (.s false 1 s.ad.length (cT s.ad)), .ext false (.s false 1 s.is.length (cT s.is)), .ext false (.s false 4 s.cp.length (cP s.cp))]⟩ K R) = W (lC c.1 c.2 c.3 c.4.length c.5.length c.6.length c.7.length (cN c.4) (cI c.5) (cL c.6) (cK c.7) fun (c_1 : Cir) => bif !chkC c_1 == (0 : Int) then R (.v (vi64 (chkC c_1))) [] else bif decide (k < (3 : Int)) then R (.v (vi64 60)) [] else bif decide ((5 : Int) < k) then R (.v (vi64 60)) [] else lT s.1.length (cT s.1) fun (l : List (List Nat)) => bif !!wrT c.1 (usN k) l then R (.v (vi64 130)) [] else lT s.2.length (cT s.2) fun (l : List (List Nat)) => bif !!wrT c.2 (usN k) l then R (.v (vi64 130)) [] else lT s.3.length (cT s.3) fun (l : List (List Nat)) => bif !!wrT c.3 (usN k) l then R (.v (vi64 130)) [] else bif decide ((256 : Int) < (↑s.4.length : Int)) then R (.v (vi64 130)) [] else K [.at [0,1,0,1,1,1,1,1,1], .blk 0, .at [1,1,1,1,1,1,1]] (St.mk [(9, .v (vi64 0)), (8, .v (vi64 (usN k))), (5, .p 0 0), (3, .p 1 0)] [.cells [.x 2 [], .x 3 [], .x 4 [], .x 5 []] 42, .cells [.v (vi64 c.1), .v (vi64 c.2), .v (vi64 c.3), .x 6 [], .x 7 [], .x 8 [], .x 9 []] 27, .ext false (.s false 1 s.1.length (cT s.1)), .ext false (.s false 1 s.2.length (cT s.2)), .ext false (.s false 1 s.3.length (cT s.3)), .ext false (.s false 4 s.4.length (cP s.4)), .ext false (.s false 7 c.4.length (cN c.4)), .ext false (.s false 1 c.5.length (cI c.5)), .ext false (.s false 2 c.6.length (cL c.6)), .ext false (.s false 2 c.7.length (cK c.7))])) := by kernel_rfl
theorem rfiR (c : Cir) (s : Sht) (u : Int) (i M : Nat) (K : List It → St → Prop) (R : SV → List HO → Prop) : W (xwp Tryz.prog X K88 [] 60 (fxOf Tryz.f22 [([0,1,1,0,0,1,0,0,1,0,1,1,1,1,1,1], 3)] [⟨[0,1,0,1,1,1,1,1,1], [9,8,5,3], []⟩]) [] (.at [0,0,1,0,1,1,1,1,1,1] :: .rnd [0,0,1,0,1,1,1,1,1,1] M :: [.blk 0, .at [1,1,1,1,1,1,1]]) (St.mk [(9, .v (vi64 (i : Int))), (8, .v (vi64 u)), (5, .p 0 0), (3, .p 1 0)] [.cells [.x 2 [], .x 3 [], .x 4 [], .x 5 []] 42, .cells [.v (vi64 c.1), .v (vi64 c.2), .v (vi64 c.3), .x 6 [], .x 7 [], .x 8 [], .x 9 []] 27, .ext false (.s false 1 s.1.length (cT s.1)), .ext false (.s false 1 s.2.length (cT s.2)), .ext false (.s false 1 s.3.length (cT s.3)), .ext false (.s false 4 s.4.length (cP s.4)), .ext false (.s false 7 c.4.length (cN c.4)), .ext false (.s false 1 c.5.length (cI c.5)), .ext false (.s false 2 c.6.length (cL c.6)), .ext false (.s false 2 c.7.length (cK c.7))]) K R) = W (bif decide ((↑i : Int) < (↑s.4.length : Int)) then (∀ M : Mem, (0 : Int) ≤ (↑i : Int) ∧ (↑i : Int) < (↑s.4.length : Int)) ∧ (∀ M : Mem, i < List.length s.4) ∧ (∀ M : Mem, i < List.length s.4) ∧ (∀ M : Mem, (0 : Int) ≤ (↑i : Int) ∧ (↑i : Int) < (↑s.4.length : Int)) ∧ (∀ M : Mem, i < List.length s.4) ∧ (∀ M : Mem, i < List.length s.4) ∧ (∀ M : Mem, 0 + 4 ≤ 4) ∧ (∀ M : Mem, (0 : Int) ≤ (0 : Int) ∧ (0 : Int) < (2 : Int)) ∧ bif decide ((gP s.4 i).1 < (0 : Int)) then R (.v (vi64 130)) [] else (∀ M : Mem, (0 : Int) ≤ (0 : Int) ∧ (0 : Int) < (2 : Int)) ∧ bif decide ((↑c.7.length : Int) ≤ (gP s.4 i).1) then R (.v (vi64 130)) [] else (∀ M : Mem, (0 : Int) ≤ (0 : Int) ∧ (0 : Int) < (2 : Int)) ∧ bif decide ((gP s.4 i).2.1 < (0 : Int)) then R (.v (vi64 130)) [] else (∀ M : Mem, (0 : Int) ≤ (0 : Int) ∧ (0 : Int) < (2 : Int)) ∧ bif decide (u ≤ (gP s.4 i).2.1) then R (.v (vi64 130)) [] else (∀ M : Mem, (0 : Int) ≤ (1 : Int) ∧ (1 : Int) < (2 : Int)) ∧ bif decide ((gP s.4 i).2.2.1 < (0 : Int)) then R (.v (vi64 130)) [] else (∀ M : Mem, (0 : Int) ≤ (1 : Int) ∧ (1 : Int) < (2 : Int)) ∧ bif decide ((↑c.7.length : Int) ≤ (gP s.4 i).2.2.1) then R (.v (vi64 130)) [] else (∀ M : Mem, (0 : Int) ≤ (1 : Int) ∧ (1 : Int) < (2 : Int)) ∧ bif decide ((gP s.4 i).2.2.2 < (0 : Int)) then R (.v (vi64 130)) [] else (∀ M : Mem, (0 : Int) ≤ (1 : Int) ∧ (1 : Int) < (2 : Int)) ∧ bif decide (u ≤ (gP s.4 i).2.2.2) then R (.v (vi64 130)) [] else K [.rnd [0,0,1,0,1,1,1,1,1,1] M, .blk 0, .at [1,1,1,1,1,1,1]] (St.mk [(9, .v (vi64 (IntKind.wrap .i64 ((↑i : Int) + (1 : Int))))), (8, .v (vi64 u)), (5, .p 0 0), (3, .p 1 0)] [.cells [.x 2 [], .x 3 [], .x 4 [], .x 5 []] 42, .cells [.v (vi64 c.1), .v (vi64 c.2), .v (vi64 c.3), .x 6 [], .x 7 [], .x 8 [], .x 9 []] 27, .ext false (.s false 1 s.1.length (cT s.1)), .ext false (.s false 1 s.2.length (cT s.2)), .ext false (.s false 1 s.3.length (cT s.3)), .ext false (.s false 4 s.4.length (cP s.4)), .ext false (.s false 7 c.4.length (cN c.4)), .ext false (.s false 1 c.5.length (cI c.5)), .ext false (.s false 2 c.6.length (cL c.6)), .ext false (.s false 2 c.7.length (cK c.7))]) else R (.v (vi64 0)) []) := by kernel_rfl
theorem rfi_loop (c : Cir) (s : Sht) (u : Int) (hp : s.cp.length ≤ 256) (Q : SV → List HO → Prop) (hq1 : s.cp.any (badP c.eqs.length u) = true → Q (.v (vi64 130)) []) (hq0 : s.cp.any (badP c.eqs.length u) = false → Q (.v (vi64 0)) []) : ∀ (d i : Nat), i + d = s.cp.length → (s.cp.take i).any (badP c.eqs.length u) = false →
    FOk Tryz.prog Tryz.f22 Q (.rnd [0,0,1,0,1,1,1,1,1,1] (d + 1) :: [.blk 0, .at [1, 1, 1, 1, 1, 1, 1]]) (St.mk [(9, SV.v (vi64 (i : Int))), (8, SV.v (vi64 u)), (5, SV.p 0 0), (3, SV.p 1 0)] [HO.cells [SV.x 2 [], SV.x 3 [], SV.x 4 [], SV.x 5 []] 42, HO.cells [SV.v (vi64 c.1), SV.v (vi64 c.2), SV.v (vi64 c.3), SV.x 6 [], SV.x 7 [], SV.x 8 [], SV.x 9 []] 27, HO.ext false (Cell.s false 1 (List.length s.1) (cT s.1)), HO.ext false (Cell.s false 1 (List.length s.2) (cT s.2)), HO.ext false (Cell.s false 1 (List.length s.3) (cT s.3)), HO.ext false (Cell.s false 4 (List.length s.4) (cP s.4)), HO.ext false (Cell.s false 7 (List.length c.4) (cN c.4)), HO.ext false (Cell.s false 1 (List.length c.5) (cI c.5)), HO.ext false (Cell.s false 2 (List.length c.6) (cL c.6)), HO.ext false (Cell.s false 2 (List.length c.7) (cK c.7))])
  | 0, i, hd, he => by
    refine FOk.rnd (run_sound hm 60 ((rfiR c s u i 0 _ _).mpr ⟨?_⟩))
    rw [cond_dec, if_neg (by omega)]
    rw [List.take_of_length_le (by omega)] at he
    exact hq0 he
  | d + 1, i, hd, he => by
    have hi : i < s.cp.length := by omega
    have bad : ((gP s.cp i).1 < 0 ∨ (c.eqs.length : Int) ≤ (gP s.cp i).1 ∨ (gP s.cp i).2.1 < 0 ∨ u ≤ (gP s.cp i).2.1) ∨ ((gP s.cp i).2.2.1 < 0 ∨ (c.eqs.length : Int) ≤ (gP s.cp i).2.2.1 ∨ (gP s.cp i).2.2.2 < 0 ∨ u ≤ (gP s.cp i).2.2.2) → Q (.v (vi64 130)) [] := fun h => by
      refine hq1 (List.any_eq_true.2 ⟨_, gP_mem hi, ?_⟩)
      rw [badP, Bool.or_eq_true]
      exact h.imp (fun h => decide_eq_true h) (fun h => decide_eq_true h)
    refine FOk.rnd (run_sound hm 60 ((rfiR c s u i (d + 1) _ _).mpr ⟨?_⟩))
    rw [cond_dec, if_pos (by omega), wrap_inc _ (by omega)]
    refine And.intro (fun _ => by omega) (And.intro (fun _ => by omega) (And.intro (fun _ => by omega) (And.intro (fun _ => by omega) (And.intro (fun _ => by omega) (And.intro (fun _ => by omega) (And.intro (fun _ => by omega) (?_)))))))
    simp only [cond_dec]
    repeat' (first | refine And.intro (fun _ => by omega) ?_ | refine ite_intro (fun h => ?_) (fun h => ?_))
    all_goals first
      | exact bad (by omega)
      | (refine rfi_loop c s u hp Q hq1 hq0 d (i + 1) (by omega) ?_
         rw [take_gP hi, List.any_append, he, List.any_cons, badP, badB, badB, decide_eq_false (by omega), decide_eq_false (by omega)]
         rfl)
theorem bRfi : Tryz.f22.body.isSome = true := by kernel_rfl
theorem nRfi (c : Cir) (k : Int) : Nat.ble ([.agg [.v (.int .i64 c.fx), .v (.int .i64 c.ad), .v (.int .i64 c.ins), .x 0 [], .x 1 [], .x 2 [], .x 3 []], .v (.int .i64 k), .agg [.x 4 [], .x 5 [], .x 6 [], .x 7 []]] : List SV).length Tryz.f22.ntmps = true := by kernel_rfl
theorem rfi_ok (c : Cir) (hc : c.ok) (s : Sht) (hs : s.ok) (k : Int) (Q : SV → List HO → Prop) (hq : Q (.v (.int .i64 (fitV c k s))) []) : FnOk Tryz.prog 22 [.agg [.v (.int .i64 c.fx), .v (.int .i64 c.ad), .v (.int .i64 c.ins), .x 0 [], .x 1 [], .x 2 [], .x 3 []], .v (.int .i64 k), .agg [.x 4 [], .x 5 [], .x 6 [], .x 7 []]] [.ext false (.s false 7 c.nodes.length (cN c.nodes)), .ext false (.s false 1 c.gates.length (cI c.gates)), .ext false (.s false 2 c.looks.length (cL c.looks)), .ext false (.s false 2 c.eqs.length (cK c.eqs)), .ext false (.s false 1 s.fx.length (cT s.fx)), .ext false (.s false 1 s.ad.length (cT s.ad)), .ext false (.s false 1 s.is.length (cT s.is)), .ext false (.s false 4 s.cp.length (cP s.cp))] Q := by
  refine fn_of_ok Tryz.func22 bRfi ?_ ?_
  · exact nRfi c k
  refine run_sound hm 60 ((rfiS c s k _ _).mpr ⟨?_⟩)
  rw [fitV] at hq
  refine lC_mk c hc ?_
  rw [cond_not, cond_beq]
  refine ite_intro (fun h0 => ?_) (fun h0 => by rw [if_pos h0] at hq; exact hq)
  rw [if_neg (fun h => h h0)] at hq
  rw [cond_dec, cond_dec]
  refine ite_intro (fun h1 => by rw [if_pos h1] at hq; exact hq) (fun h1 => ite_intro (fun h2 => by rw [if_neg h1, if_pos h2] at hq; exact hq) (fun h2 => ?_))
  rw [if_neg h1, if_neg h2] at hq
  refine lT_mk hs.f ?_
  rw [Bool.not_not]
  refine cond_intro (fun e => by rw [if_pos e] at hq; exact hq) (fun e => ?_)
  rw [if_neg (by rw [e]; exact Bool.false_ne_true)] at hq
  refine lT_mk hs.a ?_
  rw [Bool.not_not]
  refine cond_intro (fun e => by rw [if_pos e] at hq; exact hq) (fun e => ?_)
  rw [if_neg (by rw [e]; exact Bool.false_ne_true)] at hq
  refine lT_mk hs.i ?_
  rw [Bool.not_not]
  refine cond_intro (fun e => by rw [if_pos e] at hq; exact hq) (fun e => ?_)
  rw [if_neg (by rw [e]; exact Bool.false_ne_true), wrP] at hq
  refine cond_intro (fun e => ?_) (fun e => ?_)
  · rw [e] at hq; exact hq
  rw [e, Bool.false_or] at hq
  have hp : s.cp.length ≤ 256 := by have := of_decide_eq_false e; omega
  exact FOk.loop (s.cp.length + 1) (by kernel_rfl) (rfi_loop c s (usN k) hp Q (fun h => by rw [if_pos h] at hq; exact hq) (fun h => by rw [if_neg (by rw [h]; exact Bool.false_ne_true)] at hq; exact hq) s.cp.length 0 (by omega) rfl)
noncomputable def gRfi : List SV → List HO → Option ((SV → List HO → Prop) → Prop)
  | [.agg [.v (.int .i64 fx), .v (.int .i64 ad), .v (.int .i64 ins), .x 0 [], .x 1 [], .x 2 [], .x 3 []], .v (.int .i64 k), .agg [.x 4 [], .x 5 [], .x 6 [], .x 7 []]], [.ext false (.s false 7 n0 c0), .ext false (.s false 1 n1 c1), .ext false (.s false 2 n2 c2), .ext false (.s false 2 n3 c3), .ext false (.s false 1 m0 d0), .ext false (.s false 1 m1 d1), .ext false (.s false 1 m2 d2), .ext false (.s false 4 m3 d3)] =>
    some fun Q => lF fx ad ins n0 n1 n2 n3 m0 m1 m2 m3 c0 c1 c2 c3 d0 d1 d2 d3 fun c s => Q (.v (.int .i64 (fitV c k s))) []
  | _, _ => none
theorem gRfi_ok (args : List SV) (h : List HO) (tr : (SV → List HO → Prop) → Prop) (Q : SV → List HO → Prop) (hc : gRfi args h = some tr) (ht : tr Q) : FnOk Tryz.prog 22 args h Q := by
  unfold gRfi at hc
  split at hc
  · simp only [Option.some.injEq] at hc
    subst hc
    obtain ⟨c, rfl, rfl, rfl, ⟨rfl, e0⟩, ⟨rfl, e1⟩, ⟨rfl, e2⟩, ⟨rfl, e3⟩, hk, ht2⟩ := ht.h.h
    obtain ⟨s, ⟨rfl, e4⟩, ⟨rfl, e5⟩, ⟨rfl, e6⟩, ⟨rfl, e7⟩, hs, hq⟩ := ht2.h
    exact FnOk.ac (rfi_ok c hk s hs _ Q hq) ⟨⟨rfl, rfl, rfl, rfl, e0⟩, ⟨rfl, rfl, rfl, rfl, e1⟩, ⟨rfl, rfl, rfl, rfl, e2⟩, ⟨rfl, rfl, rfl, rfl, e3⟩, ⟨rfl, rfl, rfl, rfl, e4⟩, ⟨rfl, rfl, rfl, rfl, e5⟩, ⟨rfl, rfl, rfl, rfl, e6⟩, ⟨rfl, rfl, rfl, rfl, e7⟩, trivial⟩
  · cases hc
noncomputable def K89 : Con Tryz.prog := ((K83.add 24 gRat gRat_ok).add 57 gRsh gRsh_ok).add 22 gRfi gRfi_ok
end Go.Proofs.YtlmjdcbhpffanaaGreat
/- Circuits, tables of the same contents. -/
namespace Go.Proofs.YtlmjdcbhpffanaaGreat
open Go.Sx Go.Pl
set_option linter.unusedVariables false
set_option maxRecDepth 100000
theorem sc1 (c d : Cir) (k M : Nat) (K : List It → St → Prop) (R : SV → List HO → Prop) : W (xwp Tryz.prog X K89 [] 60 (fxOf Tryz.f16 [] [⟨[0,1,0,1,1], [5,2,3], []⟩, ⟨[0,1,0,1,1,1], [6,2,3], []⟩]) [] (.at [0,0,1,0,1,1] :: .rnd [0,0,1,0,1,1] M :: [.blk 0, .at [1,1,1]]) ⟨[(5, .v (.int .i64 (k : Int))), (2, .p 0 0), (3, .p 1 0)], [.cells [.v (.int .i64 c.fx), .v (.int .i64 c.ad), .v (.int .i64 c.ins), .x 2 [], .x 3 [], .x 4 [], .x 5 []] 27, .cells [.v (.int .i64 d.fx), .v (.int .i64 d.ad), .v (.int .i64 d.ins), .x 6 [], .x 7 [], .x 8 [], .x 9 []] 27, .ext false (.s false 7 c.nodes.length (cN c.nodes)), .ext false (.s false 1 c.gates.length (cI c.gates)), .ext false (.s false 2 c.looks.length (cL c.looks)), .ext false (.s false 2 c.eqs.length (cK c.eqs)), .ext false (.s false 7 d.nodes.length (cN d.nodes)), .ext false (.s false 1 d.gates.length (cI d.gates)), .ext false (.s false 2 d.looks.length (cL d.looks)), .ext false (.s false 2 d.eqs.length (cK d.eqs))]⟩ K R) = W (bif decide ((↑k : Int) < (↑c.6.length : Int)) then (∀ M : Mem, (0 : Int) ≤ (↑k : Int) ∧ (↑k : Int) < (↑c.6.length : Int)) ∧ (∀ M : Mem, k < List.length c.6) ∧ (∀ M : Mem, k < List.length c.6) ∧ (∀ M : Mem, (0 : Int) ≤ (↑k : Int) ∧ (↑k : Int) < (↑d.6.length : Int)) ∧ (∀ M : Mem, k < List.length d.6) ∧ (∀ M : Mem, k < List.length d.6) ∧ (∀ M : Mem, k < List.length c.6) ∧ (∀ M : Mem, k < List.length d.6) ∧ lI2 (List.length (gL c.6 k).1) (List.length (gL d.6 k).1) (cI (gL c.6 k).1) (cI (gL d.6 k).1) fun (l l2 : List Int) => bif !decide (l = l2) then R (.v (.bool false)) [] else (∀ M : Mem, (0 : Int) ≤ (↑k : Int) ∧ (↑k : Int) < (↑c.6.length : Int)) ∧ (∀ M : Mem, k < List.length c.6) ∧ (∀ M : Mem, k < List.length c.6) ∧ (∀ M : Mem, (0 : Int) ≤ (↑k : Int) ∧ (↑k : Int) < (↑d.6.length : Int)) ∧ (∀ M : Mem, k < List.length d.6) ∧ (∀ M : Mem, k < List.length d.6) ∧ (∀ M : Mem, k < List.length c.6) ∧ (∀ M : Mem, k < List.length d.6) ∧ lI2 (List.length (gL c.6 k).2) (List.length (gL d.6 k).2) (cI (gL c.6 k).2) (cI (gL d.6 k).2) fun (l l2 : List Int) => bif !decide (l = l2) then R (.v (.bool false)) [] else K [.rnd [0,0,1,0,1,1] M, .blk 0, .at [1,1,1]] (St.mk [(5, .v (vi64 (IntKind.wrap .i64 ((↑k : Int) + (1 : Int))))), (2, .p 0 0), (3, .p 1 0)] [.cells [.v (vi64 c.1), .v (vi64 c.2), .v (vi64 c.3), .x 2 [], .x 3 [], .x 4 [], .x 5 []] 27, .cells [.v (vi64 d.1), .v (vi64 d.2), .v (vi64 d.3), .x 6 [], .x 7 [], .x 8 [], .x 9 []] 27, .ext false (.s false 7 c.4.length (cN c.4)), .ext false (.s false 1 c.5.length (cI c.5)), .ext false (.s false 2 c.6.length (cL c.6)), .ext false (.s false 2 c.7.length (cK c.7)), .ext false (.s false 7 d.4.length (cN d.4)), .ext false (.s false 1 d.5.length (cI d.5)), .ext false (.s false 2 d.6.length (cL d.6)), .ext false (.s false 2 d.7.length (cK d.7))]) else K [.at [0,1,0,1,1,1], .blk 2, .at [1,1,1,1]] (St.mk [(6, .v (vi64 0)), (2, .p 0 0), (3, .p 1 0)] [.cells [.v (vi64 c.1), .v (vi64 c.2), .v (vi64 c.3), .x 2 [], .x 3 [], .x 4 [], .x 5 []] 27, .cells [.v (vi64 d.1), .v (vi64 d.2), .v (vi64 d.3), .x 6 [], .x 7 [], .x 8 [], .x 9 []] 27, .ext false (.s false 7 c.4.length (cN c.4)), .ext false (.s false 1 c.5.length (cI c.5)), .ext false (.s false 2 c.6.length (cL c.6)), .ext false (.s false 2 c.7.length (cK c.7)), .ext false (.s false 7 d.4.length (cN d.4)), .ext false (.s false 1 d.5.length (cI d.5)), .ext false (.s false 2 d.6.length (cL d.6)), .ext false (.s false 2 d.7.length (cK d.7))])) := by kernel_rfl
theorem sc2 (c d : Cir) (k M : Nat) (K : List It → St → Prop) (R : SV → List HO → Prop) : W (xwp Tryz.prog X K89 [] 60 (fxOf Tryz.f16 [] [⟨[0,1,0,1,1], [5,2,3], []⟩, ⟨[0,1,0,1,1,1], [6,2,3], []⟩]) [] (.at [0,0,1,0,1,1,1] :: .rnd [0,0,1,0,1,1,1] M :: [.blk 2, .at [1,1,1,1]]) ⟨[(6, .v (.int .i64 (k : Int))), (2, .p 0 0), (3, .p 1 0)], [.cells [.v (.int .i64 c.fx), .v (.int .i64 c.ad), .v (.int .i64 c.ins), .x 2 [], .x 3 [], .x 4 [], .x 5 []] 27, .cells [.v (.int .i64 d.fx), .v (.int .i64 d.ad), .v (.int .i64 d.ins), .x 6 [], .x 7 [], .x 8 [], .x 9 []] 27, .ext false (.s false 7 c.nodes.length (cN c.nodes)), .ext false (.s false 1 c.gates.length (cI c.gates)), .ext false (.s false 2 c.looks.length (cL c.looks)), .ext false (.s false 2 c.eqs.length (cK c.eqs)), .ext false (.s false 7 d.nodes.length (cN d.nodes)), .ext false (.s false 1 d.gates.length (cI d.gates)), .ext false (.s false 2 d.looks.length (cL d.looks)), .ext false (.s false 2 d.eqs.length (cK d.eqs))]⟩ K R) = W (bif decide ((↑k : Int) < (↑c.7.length : Int)) then (∀ M : Mem, (0 : Int) ≤ (↑k : Int) ∧ (↑k : Int) < (↑c.7.length : Int)) ∧ (∀ M : Mem, k < List.length c.7) ∧ (∀ M : Mem, (0 : Int) ≤ (↑k : Int) ∧ (↑k : Int) < (↑d.7.length : Int)) ∧ (∀ M : Mem, k < List.length d.7) ∧ bif !decide ([(gK c.7 k).1, (gK c.7 k).2] = [(gK d.7 k).1, (gK d.7 k).2]) then R (.v (.bool false)) [] else K [.rnd [0,0,1,0,1,1,1] M, .blk 2, .at [1,1,1,1]] (St.mk [(6, .v (vi64 (IntKind.wrap .i64 ((↑k : Int) + (1 : Int))))), (2, .p 0 0), (3, .p 1 0)] [.cells [.v (vi64 c.1), .v (vi64 c.2), .v (vi64 c.3), .x 2 [], .x 3 [], .x 4 [], .x 5 []] 27, .cells [.v (vi64 d.1), .v (vi64 d.2), .v (vi64 d.3), .x 6 [], .x 7 [], .x 8 [], .x 9 []] 27, .ext false (.s false 7 c.4.length (cN c.4)), .ext false (.s false 1 c.5.length (cI c.5)), .ext false (.s false 2 c.6.length (cL c.6)), .ext false (.s false 2 c.7.length (cK c.7)), .ext false (.s false 7 d.4.length (cN d.4)), .ext false (.s false 1 d.5.length (cI d.5)), .ext false (.s false 2 d.6.length (cL d.6)), .ext false (.s false 2 d.7.length (cK d.7))]) else R (.v (.bool true)) []) := by kernel_rfl
theorem scS (c d : Cir) (K : List It → St → Prop) (R : SV → List HO → Prop) : W (xwp Tryz.prog X K89 [] 60 (fxOf Tryz.f16 [] [⟨[0,1,0,1,1], [5,2,3], []⟩, ⟨[0,1,0,1,1,1], [6,2,3], []⟩]) [] [.at []] ⟨argsS 0 [.agg [.v (.int .i64 c.fx), .v (.int .i64 c.ad), .v (.int .i64 c.ins), .x 0 [], .x 1 [], .x 2 [], .x 3 []], .agg [.v (.int .i64 d.fx), .v (.int .i64 d.ad), .v (.int .i64 d.ins), .x 4 [], .x 5 [], .x 6 [], .x 7 []]], [.ext false (.s false 7 c.nodes.length (cN c.nodes)), .ext false (.s false 1 c.gates.length (cI c.gates)), .ext false (.s false 2 c.looks.length (cL c.looks)), .ext false (.s false 2 c.eqs.length (cK c.eqs)), .ext false (.s false 7 d.nodes.length (cN d.nodes)), .ext false (.s false 1 d.gates.length (cI d.gates)), .ext false (.s false 2 d.looks.length (cL d.looks)), .ext false (.s false 2 d.eqs.length (cK d.eqs))]⟩ K R) = W (bif !c.1 == d.1 then R (.v (.bool false)) [] else bif !c.2 == d.2 then R (.v (.bool false)) [] else bif !c.3 == d.3 then R (.v (.bool false)) [] else ∃ (l : List Nd), List.length c.4 = List.length l ∧ IsC c.4.length 7 (cN c.4) (cN l) ∧ List.length l ≤ 4398046511104 ∧ ∃ (l2 : List Nd), List.length d.4 = List.length l2 ∧ IsC d.4.length 7 (cN d.4) (cN l2) ∧ (∀ (x : Nd), x ∈ l → x.4 < top) ∧ (∀ (x : Nd), x ∈ l2 → x.4 < top) ∧ bif !decide (l = l2) then R (.v (.bool false)) [] else lI2 c.5.length d.5.length (cI c.5) (cI d.5) fun (l l2 : List Int) => bif !decide (l = l2) then R (.v (.bool false)) [] else bif !(↑c.6.length : Int) == (↑d.6.length : Int) then R (.v (.bool false)) [] else bif !(↑c.7.length : Int) == (↑d.7.length : Int) then R (.v (.bool false)) [] else K [.at [0,1,0,1,1], .blk 0, .at [1,1,1]] (St.mk [(5, .v (vi64 0)), (2, .p 0 0), (3, .p 1 0)] [.cells [.v (vi64 c.1), .v (vi64 c.2), .v (vi64 c.3), .x 2 [], .x 3 [], .x 4 [], .x 5 []] 27, .cells [.v (vi64 d.1), .v (vi64 d.2), .v (vi64 d.3), .x 6 [], .x 7 [], .x 8 [], .x 9 []] 27, .ext false (.s false 7 c.4.length (cN c.4)), .ext false (.s false 1 c.5.length (cI c.5)), .ext false (.s false 2 c.6.length (cL c.6)), .ext false (.s false 2 c.7.length (cK c.7)), .ext false (.s false 7 d.4.length (cN d.4)), .ext false (.s false 1 d.5.length (cI d.5)), .ext false (.s false 2 d.6.length (cL d.6)), .ext false (.s false 2 d.7.length (cK d.7))])) := by kernel_rfl
theorem stbS (l l2 : List (List Nat)) (K : List It → St → Prop) (R : SV → List HO → Prop) : W (xwp Tryz.prog X K89 [] 60 (fxOf Tryz.f17 [] [⟨[0,1,0,1,1],[5,0,1],[]⟩]) [] [.at []] ⟨argsS 0 [.x 0 [], .x 1 []], [.ext false (.s false 1 l.length (cT l)), .ext false (.s false 1 l2.length (cT l2))]⟩ K R) = W (bif !(↑(List.length l) : Int) == (↑(List.length l2) : Int) then R (.v (.bool false)) [] else K [.at [0,1,0,1,1], .blk 0, .at [1,1,1]] (St.mk [(5, .v (vi64 0)), (0, .x 0 []), (1, .x 1 [])] [.ext false (.s false 1 (List.length l) (cT l)), .ext false (.s false 1 (List.length l2) (cT l2))])) := by kernel_rfl
theorem stbR (l l2 : List (List Nat)) (k M : Nat) (K : List It → St → Prop) (R : SV → List HO → Prop) : W (xwp Tryz.prog X K89 [] 60 (fxOf Tryz.f17 [] [⟨[0,1,0,1,1],[5,0,1],[]⟩]) [] (.at [0,0,1,0,1,1] :: .rnd [0,0,1,0,1,1] M :: [.blk 0, .at [1,1,1]]) ⟨[(5, .v (.int .i64 (k : Int))), (0, .x 0 []), (1, .x 1 [])], [.ext false (.s false 1 l.length (cT l)), .ext false (.s false 1 l2.length (cT l2))]⟩ K R) = W (bif decide ((↑k : Int) < (↑(List.length l) : Int)) then (∀ M : Mem, (0 : Int) ≤ (↑k : Int) ∧ (↑k : Int) < (↑(List.length l) : Int)) ∧ (∀ M : Mem, k < List.length l) ∧ (∀ M : Mem, (0 : Int) ≤ (↑k : Int) ∧ (↑k : Int) < (↑(List.length l2) : Int)) ∧ (∀ M : Mem, k < List.length l2) ∧ (∀ M : Mem, k < List.length l) ∧ (∀ M : Mem, k < List.length l2) ∧ lE2 (List.length (gT l k)) (List.length (gT l2 k)) (cE (gT l k)) (cE (gT l2 k)) fun (l_1 l2_1 : List Nat) => bif !decide (l_1 = l2_1) then R (.v (.bool false)) [] else K [.rnd [0,0,1,0,1,1] M, .blk 0, .at [1,1,1]] (St.mk [(5, .v (vi64 (IntKind.wrap .i64 ((↑k : Int) + (1 : Int))))), (0, .x 0 []), (1, .x 1 [])] [.ext false (.s false 1 (List.length l) (cT l)), .ext false (.s false 1 (List.length l2) (cT l2))]) else R (.v (.bool true)) []) := by kernel_rfl
theorem sc2_loop (c : Cir) (hc : c.ok) (Q : SV → List HO → Prop) (hq : Q (.v (.bool true)) []) : ∀ (d k : Nat), k + d = c.eqs.length →
    FOk Tryz.prog Tryz.f16 Q (.rnd [0,0,1,0,1,1,1] (d + 1) :: [.blk 2, .at [1,1,1,1]]) ⟨[(6, .v (.int .i64 (k : Int))), (2, .p 0 0), (3, .p 1 0)], [.cells [.v (.int .i64 c.fx), .v (.int .i64 c.ad), .v (.int .i64 c.ins), .x 2 [], .x 3 [], .x 4 [], .x 5 []] 27, .cells [.v (.int .i64 c.fx), .v (.int .i64 c.ad), .v (.int .i64 c.ins), .x 6 [], .x 7 [], .x 8 [], .x 9 []] 27, .ext false (.s false 7 c.nodes.length (cN c.nodes)), .ext false (.s false 1 c.gates.length (cI c.gates)), .ext false (.s false 2 c.looks.length (cL c.looks)), .ext false (.s false 2 c.eqs.length (cK c.eqs)), .ext false (.s false 7 c.nodes.length (cN c.nodes)), .ext false (.s false 1 c.gates.length (cI c.gates)), .ext false (.s false 2 c.looks.length (cL c.looks)), .ext false (.s false 2 c.eqs.length (cK c.eqs))]⟩
  | 0, k, hd => by
    refine FOk.rnd (run_sound hm 60 ((sc2 c c k 0 _ _).mpr ⟨?_⟩))
    rw [cond_dec, if_neg (by omega)]
    exact hq
  | d + 1, k, hd => by
    have h1 := hc.e.2
    refine FOk.rnd (run_sound hm 60 ((sc2 c c k (d + 1) _ _).mpr ⟨?_⟩))
    rw [cond_dec, if_pos (by omega), wrap_inc _ (by omega), decide_eq_true rfl]
    exact And.intro (fun _ => by omega) (And.intro (fun _ => by omega) (And.intro (fun _ => by omega) (And.intro (fun _ => by omega) (sc2_loop c hc Q hq d (k + 1) (by omega)))))
theorem sc1_loop (c : Cir) (hc : c.ok) (Q : SV → List HO → Prop) (hq : Q (.v (.bool true)) []) : ∀ (d k : Nat), k + d = c.looks.length →
    FOk Tryz.prog Tryz.f16 Q (.rnd [0,0,1,0,1,1] (d + 1) :: [.blk 0, .at [1,1,1]]) ⟨[(5, .v (.int .i64 (k : Int))), (2, .p 0 0), (3, .p 1 0)], [.cells [.v (.int .i64 c.fx), .v (.int .i64 c.ad), .v (.int .i64 c.ins), .x 2 [], .x 3 [], .x 4 [], .x 5 []] 27, .cells [.v (.int .i64 c.fx), .v (.int .i64 c.ad), .v (.int .i64 c.ins), .x 6 [], .x 7 [], .x 8 [], .x 9 []] 27, .ext false (.s false 7 c.nodes.length (cN c.nodes)), .ext false (.s false 1 c.gates.length (cI c.gates)), .ext false (.s false 2 c.looks.length (cL c.looks)), .ext false (.s false 2 c.eqs.length (cK c.eqs)), .ext false (.s false 7 c.nodes.length (cN c.nodes)), .ext false (.s false 1 c.gates.length (cI c.gates)), .ext false (.s false 2 c.looks.length (cL c.looks)), .ext false (.s false 2 c.eqs.length (cK c.eqs))]⟩
  | 0, k, hd => by
    refine FOk.rnd (run_sound hm 60 ((sc1 c c k 0 _ _).mpr ⟨?_⟩))
    rw [cond_dec, if_neg (by omega)]
    exact FOk.loop (c.eqs.length + 1) (by kernel_rfl) (sc2_loop c hc Q hq c.eqs.length 0 (by omega))
  | d + 1, k, hd => by
    have h1 := hc.l.2
    have hk : k < c.looks.length := by omega
    obtain ⟨⟨_, g1⟩, ⟨_, g2⟩⟩ := hc.l.1 _ (gL_mem hk)
    refine FOk.rnd (run_sound hm 60 ((sc1 c c k (d + 1) _ _).mpr ⟨?_⟩))
    rw [cond_dec, if_pos (by omega), wrap_inc _ (by omega)]
    refine And.intro (fun _ => by omega) (And.intro (fun _ => by omega) (And.intro (fun _ => by omega) (And.intro (fun _ => by omega) (And.intro (fun _ => by omega) (And.intro (fun _ => by omega) (And.intro (fun _ => by omega) (And.intro (fun _ => by omega) (⟨⟨_, _, rfl, IsC.refl _ _ _, rfl, IsC.refl _ _ _, by omega, ?_⟩⟩))))))))
    rw [decide_eq_true rfl]
    refine And.intro (fun _ => by omega) (And.intro (fun _ => by omega) (And.intro (fun _ => by omega) (And.intro (fun _ => by omega) (And.intro (fun _ => by omega) (And.intro (fun _ => by omega) (And.intro (fun _ => by omega) (And.intro (fun _ => by omega) (⟨⟨_, _, rfl, IsC.refl _ _ _, rfl, IsC.refl _ _ _, by omega, ?_⟩⟩))))))))
    rw [decide_eq_true rfl]
    exact sc1_loop c hc Q hq d (k + 1) (by omega)
theorem bSc : Tryz.f16.body.isSome = true := by kernel_rfl
theorem nSc (c : Cir) : Nat.ble [(.agg [.v (.int .i64 c.fx), .v (.int .i64 c.ad), .v (.int .i64 c.ins), .x 0 [], .x 1 [], .x 2 [], .x 3 []] : SV), .agg [.v (.int .i64 c.fx), .v (.int .i64 c.ad), .v (.int .i64 c.ins), .x 4 [], .x 5 [], .x 6 [], .x 7 []]].length Tryz.f16.ntmps = true := by kernel_rfl
theorem scm_ok (c : Cir) (hc : c.ok) (Q : SV → List HO → Prop) (hq : Q (.v (.bool true)) []) : FnOk Tryz.prog 16 [.agg [.v (.int .i64 c.fx), .v (.int .i64 c.ad), .v (.int .i64 c.ins), .x 0 [], .x 1 [], .x 2 [], .x 3 []], .agg [.v (.int .i64 c.fx), .v (.int .i64 c.ad), .v (.int .i64 c.ins), .x 4 [], .x 5 [], .x 6 [], .x 7 []]] [.ext false (.s false 7 c.nodes.length (cN c.nodes)), .ext false (.s false 1 c.gates.length (cI c.gates)), .ext false (.s false 2 c.looks.length (cL c.looks)), .ext false (.s false 2 c.eqs.length (cK c.eqs)), .ext false (.s false 7 c.nodes.length (cN c.nodes)), .ext false (.s false 1 c.gates.length (cI c.gates)), .ext false (.s false 2 c.looks.length (cL c.looks)), .ext false (.s false 2 c.eqs.length (cK c.eqs))] Q := by
  refine fn_of_ok Tryz.func16 bSc ?_ ?_
  · exact nSc c
  have h1 := hc.n.2
  have h2 := hc.g.2
  refine run_sound hm 60 ((scS c c _ _).mpr ⟨?_⟩)
  simp only [beq_self_eq_true, Bool.not_true, cond_false]
  refine ⟨c.nodes, rfl, IsC.refl _ _ _, by omega, c.nodes, rfl, IsC.refl _ _ _, fun x hx => (hc.n.1 x hx).1, fun x hx => (hc.n.1 x hx).1, ?_⟩
  rw [decide_eq_true rfl]
  refine ⟨⟨c.gates, c.gates, rfl, IsC.refl _ _ _, rfl, IsC.refl _ _ _, by omega, ?_⟩⟩
  rw [decide_eq_true rfl]
  exact FOk.loop (c.looks.length + 1) (by kernel_rfl) (sc1_loop c hc Q hq c.looks.length 0 (by omega))
noncomputable def gScm : List SV → List HO → Option ((SV → List HO → Prop) → Prop)
  | [.agg [.v (.int .i64 fx), .v (.int .i64 ad), .v (.int .i64 ins), .x 0 [], .x 1 [], .x 2 [], .x 3 []], .agg [.v (.int .i64 gx), .v (.int .i64 bd), .v (.int .i64 jns), .x 4 [], .x 5 [], .x 6 [], .x 7 []]], [.ext false (.s false 7 n0 c0), .ext false (.s false 1 n1 c1), .ext false (.s false 2 n2 c2), .ext false (.s false 2 n3 c3), .ext false (.s false 7 m0 d0), .ext false (.s false 1 m1 d1), .ext false (.s false 2 m2 d2), .ext false (.s false 2 m3 d3)] =>
    some fun Q => lC fx ad ins n0 n1 n2 n3 c0 c1 c2 c3 fun c => lC gx bd jns m0 m1 m2 m3 d0 d1 d2 d3 fun d => d = c ∧ Q (.v (.bool true)) []
  | _, _ => none
theorem gScm_ok (args : List SV) (h : List HO) (tr : (SV → List HO → Prop) → Prop) (Q : SV → List HO → Prop) (hc : gScm args h = some tr) (ht : tr Q) : FnOk Tryz.prog 16 args h Q := by
  unfold gScm at hc
  split at hc
  · simp only [Option.some.injEq] at hc
    subst hc
    obtain ⟨c, rfl, rfl, rfl, ⟨rfl, e0⟩, ⟨rfl, e1⟩, ⟨rfl, e2⟩, ⟨rfl, e3⟩, hk, ht2⟩ := ht.h
    obtain ⟨d, rfl, rfl, rfl, ⟨rfl, e4⟩, ⟨rfl, e5⟩, ⟨rfl, e6⟩, ⟨rfl, e7⟩, hk2, rfl, hq⟩ := ht2.h
    exact FnOk.ac (scm_ok _ hk Q hq) ⟨⟨rfl, rfl, rfl, rfl, e0⟩, ⟨rfl, rfl, rfl, rfl, e1⟩, ⟨rfl, rfl, rfl, rfl, e2⟩, ⟨rfl, rfl, rfl, rfl, e3⟩, ⟨rfl, rfl, rfl, rfl, e4⟩, ⟨rfl, rfl, rfl, rfl, e5⟩, ⟨rfl, rfl, rfl, rfl, e6⟩, ⟨rfl, rfl, rfl, rfl, e7⟩, trivial⟩
  · cases hc
theorem stb_loop (l : List (List Nat)) (hl : okT l) (Q : SV → List HO → Prop) (hq : Q (.v (.bool true)) []) : ∀ (d k : Nat), k + d = l.length →
    FOk Tryz.prog Tryz.f17 Q (.rnd [0,0,1,0,1,1] (d + 1) :: [.blk 0, .at [1,1,1]]) ⟨[(5, .v (.int .i64 (k : Int))), (0, .x 0 []), (1, .x 1 [])], [.ext false (.s false 1 l.length (cT l)), .ext false (.s false 1 l.length (cT l))]⟩
  | 0, k, hd => by
    refine FOk.rnd (run_sound hm 60 ((stbR l l k 0 _ _).mpr ⟨?_⟩))
    rw [cond_dec, if_neg (by omega)]
    exact hq
  | d + 1, k, hd => by
    have hk : k < l.length := by omega
    have h1 := hl.2
    obtain ⟨g0, g1⟩ := hl.1 _ (gT_mem hk)
    refine FOk.rnd (run_sound hm 60 ((stbR l l k (d + 1) _ _).mpr ⟨?_⟩))
    rw [cond_dec, if_pos (by omega), wrap_inc _ (by omega)]
    repeat' (refine And.intro (fun _ => by omega) ?_)
    refine ⟨⟨_, _, rfl, IsC.refl _ _ _, rfl, IsC.refl _ _ _, by omega, g0, g0, ?_⟩⟩
    rw [decide_eq_true rfl]
    exact stb_loop l hl Q hq d (k + 1) (by omega)
theorem bStb : Tryz.f17.body.isSome = true := by kernel_rfl
theorem nStb : Nat.ble [SV.x 0 [], .x 1 []].length Tryz.f17.ntmps = true := by kernel_rfl
theorem stb_ok (l : List (List Nat)) (hl : okT l) (Q : SV → List HO → Prop) (hq : Q (.v (.bool true)) []) : FnOk Tryz.prog 17 [.x 0 [], .x 1 []] [.ext false (.s false 1 l.length (cT l)), .ext false (.s false 1 l.length (cT l))] Q := by
  refine fn_of_ok Tryz.func17 bStb ?_ ?_
  · exact nStb
  refine run_sound hm 60 ((stbS l l _ _).mpr ⟨?_⟩)
  simp only [beq_self_eq_true, Bool.not_true, cond_false]
  exact FOk.loop (l.length + 1) (by kernel_rfl) (stb_loop l hl Q hq l.length 0 (by omega))
noncomputable def gStb : List SV → List HO → Option ((SV → List HO → Prop) → Prop)
  | [.x 0 [], .x 1 []], [.ext false (.s false 1 n c), .ext false (.s false 1 m d)] => some fun Q => lT n c fun l => lT m d fun l2 => l2 = l ∧ Q (.v (.bool true)) []
  | _, _ => none
theorem gStb_ok (args : List SV) (h : List HO) (tr : (SV → List HO → Prop) → Prop) (Q : SV → List HO → Prop) (hc : gStb args h = some tr) (ht : tr Q) : FnOk Tryz.prog 17 args h Q := by
  unfold gStb at hc
  split at hc
  · simp only [Option.some.injEq] at hc
    subst hc
    obtain ⟨l, rfl, e0, hl, ht2⟩ := ht.h
    obtain ⟨l2, rfl, e1, hl2, rfl, hq⟩ := ht2.h
    exact FnOk.ac (stb_ok _ hl Q hq) ⟨⟨rfl, rfl, rfl, rfl, e0⟩, ⟨rfl, rfl, rfl, rfl, e1⟩, trivial⟩
  · cases hc
noncomputable def K87 : Con Tryz.prog := (K89.add 16 gScm gScm_ok).add 17 gStb gStb_ok
end Go.Proofs.YtlmjdcbhpffanaaGreat
/- Sheets of the same contents. -/
namespace Go.Proofs.YtlmjdcbhpffanaaGreat
open Go.Sx Go.Pl
set_option linter.unusedVariables false
set_option maxRecDepth 100000
theorem sshS (s t : Sht) (K : List It → St → Prop) (R : SV → List HO → Prop) : W (xwp Tryz.prog X K87 [] 60 (fxOf Tryz.f15 [] [⟨[0,1,0,1,1],[5,2,3],[]⟩]) [] [.at []] ⟨argsS 0 [.agg [.x 0 [], .x 1 [], .x 2 [], .x 3 []], .agg [.x 4 [], .x 5 [], .x 6 [], .x 7 []]], [.ext false (.s false 1 s.fx.length (cT s.fx)), .ext false (.s false 1 s.ad.length (cT s.ad)), .ext false (.s false 1 s.is.length (cT s.is)), .ext false (.s false 4 s.cp.length (cP s.cp)), .ext false (.s false 1 t.fx.length (cT t.fx)), .ext false (.s false 1 t.ad.length (cT t.ad)), .ext false (.s false 1 t.is.length (cT t.is)), .ext false (.s false 4 t.cp.length (cP t.cp))]⟩ K R) = W (lT s.1.length (cT s.1) fun (l : List (List Nat)) => lT t.1.length (cT t.1) fun (l2 : List (List Nat)) => l2 = l ∧ lT s.2.length (cT s.2) fun (l : List (List Nat)) => lT t.2.length (cT t.2) fun (l2 : List (List Nat)) => l2 = l ∧ lT s.3.length (cT s.3) fun (l : List (List Nat)) => lT t.3.length (cT t.3) fun (l2 : List (List Nat)) => l2 = l ∧ bif !(↑s.4.length : Int) == (↑t.4.length : Int) then R (.v (.bool false)) [] else K [.at [0,1,0,1,1], .blk 0, .at [1,1,1]] (St.mk [(5, .v (vi64 0)), (2, .p 0 0), (3, .p 1 0)] [.cells [.x 2 [], .x 3 [], .x 4 [], .x 5 []] 42, .cells [.x 6 [], .x 7 [], .x 8 [], .x 9 []] 42, .ext false (.s false 1 s.1.length (cT s.1)), .ext false (.s false 1 s.2.length (cT s.2)), .ext false (.s false 1 s.3.length (cT s.3)), .ext false (.s false 4 s.4.length (cP s.4)), .ext false (.s false 1 t.1.length (cT t.1)), .ext false (.s false 1 t.2.length (cT t.2)), .ext false (.s false 1 t.3.length (cT t.3)), .ext false (.s false 4 t.4.length (cP t.4))])) := by kernel_rfl
theorem sshR (s t : Sht) (k M : Nat) (K : List It → St → Prop) (R : SV → List HO → Prop) : W (xwp Tryz.prog X K87 [] 60 (fxOf Tryz.f15 [] [⟨[0,1,0,1,1],[5,2,3],[]⟩]) [] (.at [0,0,1,0,1,1] :: .rnd [0,0,1,0,1,1] M :: [.blk 0, .at [1,1,1]]) ⟨[(5, .v (.int .i64 (k : Int))), (2, .p 0 0), (3, .p 1 0)], [.cells [.x 2 [], .x 3 [], .x 4 [], .x 5 []] 42, .cells [.x 6 [], .x 7 [], .x 8 [], .x 9 []] 42, .ext false (.s false 1 s.fx.length (cT s.fx)), .ext false (.s false 1 s.ad.length (cT s.ad)), .ext false (.s false 1 s.is.length (cT s.is)), .ext false (.s false 4 s.cp.length (cP s.cp)), .ext false (.s false 1 t.fx.length (cT t.fx)), .ext false (.s false 1 t.ad.length (cT t.ad)), .ext false (.s false 1 t.is.length (cT t.is)), .ext false (.s false 4 t.cp.length (cP t.cp))]⟩ K R) = W (bif decide ((↑k : Int) < (↑s.4.length : Int)) then (∀ M : Mem, (0 : Int) ≤ (↑k : Int) ∧ (↑k : Int) < (↑s.4.length : Int)) ∧ (∀ M : Mem, k < List.length s.4) ∧ (∀ M : Mem, (0 : Int) ≤ (↑k : Int) ∧ (↑k : Int) < (↑t.4.length : Int)) ∧ (∀ M : Mem, k < List.length t.4) ∧ bif !decide ([(gP s.4 k).1, (gP s.4 k).2.1, (gP s.4 k).2.2.1, (gP s.4 k).2.2.2] = [(gP t.4 k).1, (gP t.4 k).2.1, (gP t.4 k).2.2.1, (gP t.4 k).2.2.2]) then R (.v (.bool false)) [] else K [.rnd [0,0,1,0,1,1] M, .blk 0, .at [1,1,1]] (St.mk [(5, .v (vi64 (IntKind.wrap .i64 ((↑k : Int) + (1 : Int))))), (2, .p 0 0), (3, .p 1 0)] [.cells [.x 2 [], .x 3 [], .x 4 [], .x 5 []] 42, .cells [.x 6 [], .x 7 [], .x 8 [], .x 9 []] 42, .ext false (.s false 1 s.1.length (cT s.1)), .ext false (.s false 1 s.2.length (cT s.2)), .ext false (.s false 1 s.3.length (cT s.3)), .ext false (.s false 4 s.4.length (cP s.4)), .ext false (.s false 1 t.1.length (cT t.1)), .ext false (.s false 1 t.2.length (cT t.2)), .ext false (.s false 1 t.3.length (cT t.3)), .ext false (.s false 4 t.4.length (cP t.4))]) else R (.v (.bool true)) []) := by kernel_rfl
theorem ssh_loop (s : Sht) (hs : s.ok) (Q : SV → List HO → Prop) (hq : Q (.v (.bool true)) []) : ∀ (d k : Nat), k + d = s.cp.length →
    FOk Tryz.prog Tryz.f15 Q (.rnd [0,0,1,0,1,1] (d + 1) :: [.blk 0, .at [1,1,1]]) ⟨[(5, .v (.int .i64 (k : Int))), (2, .p 0 0), (3, .p 1 0)], [.cells [.x 2 [], .x 3 [], .x 4 [], .x 5 []] 42, .cells [.x 6 [], .x 7 [], .x 8 [], .x 9 []] 42, .ext false (.s false 1 s.fx.length (cT s.fx)), .ext false (.s false 1 s.ad.length (cT s.ad)), .ext false (.s false 1 s.is.length (cT s.is)), .ext false (.s false 4 s.cp.length (cP s.cp)), .ext false (.s false 1 s.fx.length (cT s.fx)), .ext false (.s false 1 s.ad.length (cT s.ad)), .ext false (.s false 1 s.is.length (cT s.is)), .ext false (.s false 4 s.cp.length (cP s.cp))]⟩
  | 0, k, hd => by
    refine FOk.rnd (run_sound hm 60 ((sshR s s k 0 _ _).mpr ⟨?_⟩))
    rw [cond_dec, if_neg (by omega)]
    exact hq
  | d + 1, k, hd => by
    have h1 := hs.c.2
    refine FOk.rnd (run_sound hm 60 ((sshR s s k (d + 1) _ _).mpr ⟨?_⟩))
    rw [cond_dec, if_pos (by omega), wrap_inc _ (by omega), decide_eq_true rfl]
    exact And.intro (fun _ => by omega) (And.intro (fun _ => by omega) (And.intro (fun _ => by omega) (And.intro (fun _ => by omega) (ssh_loop s hs Q hq d (k + 1) (by omega)))))
theorem bSsh : Tryz.f15.body.isSome = true := by kernel_rfl
theorem nSsh : Nat.ble [(.agg [.x 0 [], .x 1 [], .x 2 [], .x 3 []] : SV), .agg [.x 4 [], .x 5 [], .x 6 [], .x 7 []]].length Tryz.f15.ntmps = true := by kernel_rfl
theorem ssh_ok (s : Sht) (hs : s.ok) (Q : SV → List HO → Prop) (hq : Q (.v (.bool true)) []) : FnOk Tryz.prog 15 [.agg [.x 0 [], .x 1 [], .x 2 [], .x 3 []], .agg [.x 4 [], .x 5 [], .x 6 [], .x 7 []]] [.ext false (.s false 1 s.fx.length (cT s.fx)), .ext false (.s false 1 s.ad.length (cT s.ad)), .ext false (.s false 1 s.is.length (cT s.is)), .ext false (.s false 4 s.cp.length (cP s.cp)), .ext false (.s false 1 s.fx.length (cT s.fx)), .ext false (.s false 1 s.ad.length (cT s.ad)), .ext false (.s false 1 s.is.length (cT s.is)), .ext false (.s false 4 s.cp.length (cP s.cp))] Q := by
  refine fn_of_ok Tryz.func15 bSsh ?_ ?_
  · exact nSsh
  refine run_sound hm 60 ((sshS s s _ _).mpr ⟨?_⟩)
  refine lT_mk hs.f (lT_mk hs.f ⟨rfl, lT_mk hs.a (lT_mk hs.a ⟨rfl, lT_mk hs.i (lT_mk hs.i ⟨rfl, ?_⟩)⟩)⟩)
  simp only [beq_self_eq_true, Bool.not_true, cond_false]
  exact FOk.loop (s.cp.length + 1) (by kernel_rfl) (ssh_loop s hs Q hq s.cp.length 0 (by omega))
noncomputable def gSsh : List SV → List HO → Option ((SV → List HO → Prop) → Prop)
  | [.agg [.x 0 [], .x 1 [], .x 2 [], .x 3 []], .agg [.x 4 [], .x 5 [], .x 6 [], .x 7 []]], [.ext false (.s false 1 n0 c0), .ext false (.s false 1 n1 c1), .ext false (.s false 1 n2 c2), .ext false (.s false 4 n3 c3), .ext false (.s false 1 m0 d0), .ext false (.s false 1 m1 d1), .ext false (.s false 1 m2 d2), .ext false (.s false 4 m3 d3)] =>
    some fun Q => lS n0 n1 n2 n3 c0 c1 c2 c3 fun s => lS m0 m1 m2 m3 d0 d1 d2 d3 fun t => t = s ∧ Q (.v (.bool true)) []
  | _, _ => none
theorem gSsh_ok (args : List SV) (h : List HO) (tr : (SV → List HO → Prop) → Prop) (Q : SV → List HO → Prop) (hc : gSsh args h = some tr) (ht : tr Q) : FnOk Tryz.prog 15 args h Q := by
  unfold gSsh at hc
  split at hc
  · simp only [Option.some.injEq] at hc
    subst hc
    obtain ⟨s, ⟨rfl, e0⟩, ⟨rfl, e1⟩, ⟨rfl, e2⟩, ⟨rfl, e3⟩, hs, ht2⟩ := ht.h
    obtain ⟨t, ⟨rfl, e4⟩, ⟨rfl, e5⟩, ⟨rfl, e6⟩, ⟨rfl, e7⟩, ht3, rfl, hq⟩ := ht2.h
    exact FnOk.ac (ssh_ok _ hs Q hq) ⟨⟨rfl, rfl, rfl, rfl, e0⟩, ⟨rfl, rfl, rfl, rfl, e1⟩, ⟨rfl, rfl, rfl, rfl, e2⟩, ⟨rfl, rfl, rfl, rfl, e3⟩, ⟨rfl, rfl, rfl, rfl, e4⟩, ⟨rfl, rfl, rfl, rfl, e5⟩, ⟨rfl, rfl, rfl, rfl, e6⟩, ⟨rfl, rfl, rfl, rfl, e7⟩, trivial⟩
  · cases hc
noncomputable def K90 : Con Tryz.prog := K87.add 15 gSsh gSsh_ok
end Go.Proofs.YtlmjdcbhpffanaaGreat
/- SheetFits: the walk. -/
namespace Go.Proofs.YtlmjdcbhpffanaaGreat
open Go.Sx Go.Pl
set_option linter.unusedVariables false
set_option maxRecDepth 100000
theorem sftS (c : Cir) (s : Sht) (k kd co ro : Int) (K : List It → St → Prop) (R : SV → List HO → Prop) : W (xwp Tryz.prog X K90 [] 60 (fxOf Tryz.f4 [] []) [] [.at []] ⟨argsS 0 [.agg [.v (.int .i64 c.fx), .v (.int .i64 c.ad), .v (.int .i64 c.ins), .x 0 [], .x 1 [], .x 2 [], .x 3 []], .v (.int .i64 k), .agg [.x 4 [], .x 5 [], .x 6 [], .x 7 []], .v (.int .i64 kd), .v (.int .i64 co), .v (.int .i64 ro)], [.ext false (.s false 7 c.nodes.length (cN c.nodes)), .ext false (.s false 1 c.gates.length (cI c.gates)), .ext false (.s false 2 c.looks.length (cL c.looks)), .ext false (.s false 2 c.eqs.length (cK c.eqs)), .ext false (.s false 1 s.fx.length (cT s.fx)), .ext false (.s false 1 s.ad.length (cT s.ad)), .ext false (.s false 1 s.is.length (cT s.is)), .ext false (.s false 4 s.cp.length (cP s.cp))]⟩ K R) = W (lF c.1 c.2 c.3 c.4.length c.5.length c.6.length c.7.length s.1.length s.2.length s.3.length s.4.length (cN c.4) (cI c.5) (cL c.6) (cK c.7) (cT s.1) (cT s.2) (cT s.3) (cP s.4) fun (c_1 : Cir) (s_1 : Sht) => bif great13 c_1 s_1 then R (.v (.bool true)) [] else lC c.1 c.2 c.3 c.4.length c.5.length c.6.length c.7.length (cN c.4) (cI c.5) (cL c.6) (cK c.7) fun (c_2 : Cir) => (∀ M : Mem, 0 + 7 ≤ 7) ∧ lS s.1.length s.2.length s.3.length s.4.length (cT s.1) (cT s.2) (cT s.3) (cP s.4) fun (s_2 : Sht) => (∀ M : Mem, 0 + 4 ≤ 4) ∧ lF c_2.1 c_2.2 c_2.3 c_2.4.length c_2.5.length c_2.6.length c_2.7.length s_2.1.length s_2.2.length s_2.3.length s_2.4.length (cN c_2.4) (cI c_2.5) (cL c_2.6) (cK c_2.7) (cT s_2.1) (cT s_2.2) (cT s_2.3) (cP s_2.4) fun (c_3 : Cir) (s_3 : Sht) => lF c.1 c.2 c.3 c.4.length c.5.length c.6.length c.7.length s.1.length s.2.length s.3.length s.4.length (cN c.4) (cI c.5) (cL c.6) (cK c.7) (cT s.1) (cT s.2) (cT s.3) (cP s.4) fun (c_4 : Cir) (s_4 : Sht) => bif fitV c_3 k s_3 == fitV c_4 k s_4 then lS s_2.1.length s_2.2.length s_2.3.length s_2.4.length (cT s_2.1) (cT s_2.2) (cT s_2.3) (cP s_2.4) fun (s_5 : Sht) => lS s.1.length s.2.length s.3.length s.4.length (cT s.1) (cT s.2) (cT s.3) (cP s.4) fun (s_6 : Sht) => bif decide ((eI (atS s_5 kd co ro)) = (eI (atS s_6 kd co ro))) then lC c_2.1 c_2.2 c_2.3 c_2.4.length c_2.5.length c_2.6.length c_2.7.length (cN c_2.4) (cI c_2.5) (cL c_2.6) (cK c_2.7) fun (c_5 : Cir) => lC c.1 c.2 c.3 c.4.length c.5.length c.6.length c.7.length (cN c.4) (cI c.5) (cL c.6) (cK c.7) fun (d : Cir) => d = c_5 ∧ lS s_2.1.length s_2.2.length s_2.3.length s_2.4.length (cT s_2.1) (cT s_2.2) (cT s_2.3) (cP s_2.4) fun (s_7 : Sht) => lS s.1.length s.2.length s.3.length s.4.length (cT s.1) (cT s.2) (cT s.3) (cP s.4) fun (t : Sht) => t = s_7 ∧ R (.v (.bool true)) [] else R (.v (.bool false)) [] else R (.v (.bool false)) []) := by kernel_rfl
theorem bSft : Tryz.f4.body.isSome = true := by kernel_rfl
theorem nSft (c : Cir) (k kd co ro : Int) : Nat.ble ([.agg [.v (.int .i64 c.fx), .v (.int .i64 c.ad), .v (.int .i64 c.ins), .x 0 [], .x 1 [], .x 2 [], .x 3 []], .v (.int .i64 k), .agg [.x 4 [], .x 5 [], .x 6 [], .x 7 []], .v (.int .i64 kd), .v (.int .i64 co), .v (.int .i64 ro)] : List SV).length Tryz.f4.ntmps = true := by kernel_rfl
theorem sfits_ok (c : Cir) (hc : c.ok) (s : Sht) (hs : s.ok) (k kd co ro : Int) (Q : SV → List HO → Prop) (hq : Q (.v (.bool true)) []) : FnOk Tryz.prog 4 [.agg [.v (.int .i64 c.fx), .v (.int .i64 c.ad), .v (.int .i64 c.ins), .x 0 [], .x 1 [], .x 2 [], .x 3 []], .v (.int .i64 k), .agg [.x 4 [], .x 5 [], .x 6 [], .x 7 []], .v (.int .i64 kd), .v (.int .i64 co), .v (.int .i64 ro)] [.ext false (.s false 7 c.nodes.length (cN c.nodes)), .ext false (.s false 1 c.gates.length (cI c.gates)), .ext false (.s false 2 c.looks.length (cL c.looks)), .ext false (.s false 2 c.eqs.length (cK c.eqs)), .ext false (.s false 1 s.fx.length (cT s.fx)), .ext false (.s false 1 s.ad.length (cT s.ad)), .ext false (.s false 1 s.is.length (cT s.is)), .ext false (.s false 4 s.cp.length (cP s.cp))] Q := by
  refine fn_of_ok Tryz.func4 bSft ?_ ?_
  · exact nSft c k kd co ro
  refine run_sound hm 60 ((sftS c s k kd co ro _ _).mpr ⟨?_⟩)
  refine lF_mk c hc s hs (cond_intro (fun _ => hq) (fun _ => lC_mk c hc (And.intro (fun _ => by omega) (lS_mk s hs (And.intro (fun _ => by omega) (lF_mk c hc s hs (lF_mk c hc s hs ?_)))))))
  rw [beq_self_eq_true, cond_true]
  refine lS_mk s hs (lS_mk s hs ?_)
  rw [decide_eq_true rfl, cond_true]
  exact lC_mk c hc (lC_mk c hc ⟨rfl, lS_mk s hs (lS_mk s hs ⟨rfl, hq⟩)⟩)
end Go.Proofs.YtlmjdcbhpffanaaGreat
/- Arguments' types: sheets. -/
namespace Go.Pl
open Go.Sx
noncomputable def shtCell (s : Sht) (j : Nat) : Cell :=
  match j with
  | 0 => .s false 1 s.fx.length (cT s.fx)
  | 1 => .s false 1 s.ad.length (cT s.ad)
  | 2 => .s false 1 s.is.length (cT s.is)
  | 3 => .s false 4 s.cp.length (cP s.cp)
  | _ => .v undef
end Go.Pl
namespace Go.Proofs.YtlmjdcbhpffanaaGreat
open Go.Sx Go.Pl Go.RowKit Go.ChangeShapes Go.WideShapes Go.ChangeAt
set_option linter.unusedVariables false
set_option maxRecDepth 100000
theorem by67 : Tryz.prog.bytesOf 67 = 24 := by kernel_rfl
theorem u31 : Tryz.prog.underlying 31 = some (.slice 67) := by kernel_rfl
theorem c31 : Tryz.prog.cellsOf 31 = 1 := by kernel_rfl
theorem cod_t : Cod Tryz.prog 31 1 (fun (l : List (List Nat)) _ => .s false 1 l.length (cT l)) okT := (Cod.slice cod_es u31 c31 []).mono fun l h => by
  obtain ⟨h1, h2⟩ := h
  rw [by67, reachBytes] at h2
  exact ⟨h1, h2⟩
theorem u98 : Tryz.prog.underlying 98 = some (.struct #[⟨"Col", 3, 0, false, "", "", 0⟩, ⟨"Row", 3, 1, false, "", "", 8⟩]) := by kernel_rfl
theorem c98 : Tryz.prog.cellsOf 98 = 2 := by kernel_rfl
theorem cod_ce : Cod Tryz.prog 98 2 kCell (fun x => i64 x.1 ∧ i64 x.2) where
  cells := c98
  opn := by
    intro H enc w base sp hd n cs d p hl h hw
    obtain ⟨xs, k, _, hx, _, hxl, hf⟩ := DataW.trod_struct u98 h
    simp only [Prod.mk.injEq] at hx
    obtain ⟨rfl, rfl⟩ := hx
    have hW : ∀ x ∈ DataW.weightsEach Tryz.prog [3, 3] (xs.map (·.1)), x ≤ reachBytes := fun x hx => hw x (by simp only [DataW.weights, u98]; exact hx)
    have hxl : xs.length = 2 := hxl
    obtain ⟨x0, o0, r0⟩ := cod_i.field (off := 0) (hf 0 _ rfl) (by omega) hW rfl (by omega)
    obtain ⟨x1, o1, r1⟩ := cod_i.field (off := 1) (hf 1 _ rfl) (by omega) hW rfl (by omega)
    refine ⟨(x0, x1), ⟨o0, o1⟩, fun j hj => ?_⟩
    match j, hj with
    | 0, _ => exact r0 0 (by omega)
    | 1, _ => exact r1 0 (by omega)
theorem u101 : Tryz.prog.underlying 101 = some (.struct #[⟨"A", 98, 0, false, "", "", 0⟩, ⟨"B", 98, 2, false, "", "", 16⟩]) := by kernel_rfl
theorem c101 : Tryz.prog.cellsOf 101 = 4 := by kernel_rfl
theorem cod_cp : Cod Tryz.prog 101 4 pCell (fun x => i64 x.1 ∧ i64 x.2.1 ∧ i64 x.2.2.1 ∧ i64 x.2.2.2) where
  cells := c101
  opn := by
    intro H enc w base sp hd n cs d p hl h hw
    obtain ⟨xs, k, _, hx, _, hxl, hf⟩ := DataW.trod_struct u101 h
    simp only [Prod.mk.injEq] at hx
    obtain ⟨rfl, rfl⟩ := hx
    have hW : ∀ x ∈ DataW.weightsEach Tryz.prog [98, 98] (xs.map (·.1)), x ≤ reachBytes := fun x hx => hw x (by simp only [DataW.weights, u101]; exact hx)
    have hxl : xs.length = 2 := hxl
    obtain ⟨x0, o0, r0⟩ := cod_ce.field (off := 0) (hf 0 _ rfl) (by omega) hW rfl (by omega)
    obtain ⟨x1, o1, r1⟩ := cod_ce.field (off := 2) (hf 1 _ rfl) (by omega) hW rfl (by omega)
    refine ⟨(x0.1, x0.2, x1.1, x1.2), ⟨o0.1, o0.2, o1.1, o1.2⟩, fun j hj => ?_⟩
    match j, hj with
    | 0, _ => exact r0 0 (by omega)
    | 1, _ => exact r0 1 (by omega)
    | 2, _ => exact r1 0 (by omega)
    | 3, _ => exact r1 1 (by omega)
theorem by101 : Tryz.prog.bytesOf 101 = 32 := by kernel_rfl
theorem u40 : Tryz.prog.underlying 40 = some (.slice 101) := by kernel_rfl
theorem c40 : Tryz.prog.cellsOf 40 = 1 := by kernel_rfl
theorem cod_cps : Cod Tryz.prog 40 1 (fun (l : List (Int × Int × Int × Int)) _ => .s false 4 l.length (cP l)) (fun l => (∀ x ∈ l, i64 x.1 ∧ i64 x.2.1 ∧ i64 x.2.2.1 ∧ i64 x.2.2.2) ∧ l.length * 32 ≤ 140737488351232) := (Cod.slice cod_cp u40 c40 dP).mono fun l h => by
  obtain ⟨h1, h2⟩ := h
  rw [by101, reachBytes] at h2
  exact ⟨h1, h2⟩
theorem u42 : Tryz.prog.underlying 42 = some (.struct #[⟨"Fixed", 31, 0, false, "", "", 0⟩, ⟨"Advice", 31, 1, false, "", "", 24⟩, ⟨"Instance", 31, 2, false, "", "", 48⟩, ⟨"Copies", 40, 3, false, "", "", 72⟩]) := by kernel_rfl
theorem c42 : Tryz.prog.cellsOf 42 = 4 := by kernel_rfl
theorem cod_s : Cod Tryz.prog 42 4 shtCell Sht.ok where
  cells := c42
  opn := by
    intro H enc w base sp hd n cs d p hl h hw
    obtain ⟨xs, k, _, hx, _, hxl, hf⟩ := DataW.trod_struct u42 h
    simp only [Prod.mk.injEq] at hx
    obtain ⟨rfl, rfl⟩ := hx
    have hW : ∀ x ∈ DataW.weightsEach Tryz.prog [31, 31, 31, 40] (xs.map (·.1)), x ≤ reachBytes := fun x hx => hw x (by simp only [DataW.weights, u42]; exact hx)
    have hxl : xs.length = 4 := hxl
    obtain ⟨x0, o0, r0⟩ := cod_t.field (off := 0) (hf 0 _ rfl) (by omega) hW rfl (by omega)
    obtain ⟨x1, o1, r1⟩ := cod_t.field (off := 1) (hf 1 _ rfl) (by omega) hW rfl (by omega)
    obtain ⟨x2, o2, r2⟩ := cod_t.field (off := 2) (hf 2 _ rfl) (by omega) hW rfl (by omega)
    obtain ⟨x3, o3, r3⟩ := cod_cps.field (off := 3) (hf 3 _ rfl) (by omega) hW rfl (by omega)
    refine ⟨⟨x0, x1, x2, x3⟩, ⟨o0, o1, o2, o3⟩, fun j hj => ?_⟩
    match j, hj with
    | 0, _ => exact r0 0 (by omega)
    | 1, _ => exact r1 0 (by omega)
    | 2, _ => exact r2 0 (by omega)
    | 3, _ => exact r3 0 (by omega)
end Go.Proofs.YtlmjdcbhpffanaaGreat
