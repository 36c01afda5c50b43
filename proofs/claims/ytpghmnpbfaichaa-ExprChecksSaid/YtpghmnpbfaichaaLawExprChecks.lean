/- The law ExprChecks holds: Check, Degrees, Queries and Cone answer what the document says. -/
import Derived.Test.YtpghmnpbfaichaaRows
import Derived.Test.YtpghmnpbfaichaaSx22
import Derived.Test.YtpghmnpbfaichaaG2
namespace Go.Proofs.Ytpghmnpbfaichaa
open Go.ChangeShapes Go.WideShapes Go.ChangeAt Go.RowKit Go.Sx Go.Pl

theorem ownKnobs : ownKnob Try.prog.godebug = none := by kernel_rfl

set_option maxRecDepth 100000 in
theorem exprChecks_lifted (os : Os) (started : os.Started) (H : Type) (enc : TypeId × Value → H) :
    ReturnsInHanded {} Try.checked os 12 .any (Rows.exprChecksSpec.pre6 enc Try.prog Try.f12 Rows.exprChecksRow.domain false) (Rows.exprChecksSpec.post enc Try.prog Try.f12 false true false false) := by
  refine returnsInHanded_of_change (C := Try.checked) ownKnobs started (by kernel_rfl) Try.func12
    (ChangeSpec.witness6 (enc := enc) (C := Try.checked) false ⟨#[], #[.slice none 0 0, .int .i64 0, .int .i64 0, .int .i64 0, .int .i64 0], []⟩ 8 (by kernel_rfl) (by kernel_rfl) (by kernel_rfl) (by kernel_rfl)) ?_
  intro W base args ds gs before hval0 hW hcnd _
  have hW' := hW
  have hlt : ∀ p ∈ before, p.block < W.heap.size := fun p hp => hW.lt p hp
  obtain ⟨p, q, hA0, hV, rfl, hfz, hnd⟩ := hW
  have hA : DataW.TrodAll enc Try.prog W 0 (fun _ => true) true Try.f12.params.toList args.toList ds p := hA0
  have hval : ∀ (j : Nat) t v, Try.f12.params[j]? = some t → args[j]? = some v → Value.okWide Try.prog W .any base t v := hval0
  rw [Try.params12] at hA hval
  obtain ⟨v1, vs1, d1, ds1, p1, q1, ha1, rfl, rfl, h1, hA1⟩ := trodAll_cons hA
  obtain ⟨v2, vs2, d2, ds2, p2, q2, rfl, rfl, rfl, h2, hA2⟩ := trodAll_cons hA1
  obtain ⟨v3, vs3, d3, ds3, p3, q3, rfl, rfl, rfl, h3, hA3⟩ := trodAll_cons hA2
  obtain ⟨v4, vs4, d4, ds4, p4, q4, rfl, rfl, rfl, h4, hA4⟩ := trodAll_cons hA3
  obtain ⟨v5, vs5, d5, ds5, p5, q5, rfl, rfl, rfl, h5, hA5⟩ := trodAll_cons hA4
  obtain ⟨rfl, rfl, rfl⟩ := trodAll_nil hA5
  obtain rfl : args = #[v1, v2, v3, v4, v5] := by cases args; simp_all
  obtain ⟨rfl, rfl⟩ := trodVars_none hV
  obtain ⟨oa1, n1, cap1, l1, e1, hn1, hw1, hm1⟩ := nodes_open (hval 0 22 v1 rfl rfl) h1
  obtain ⟨z2, e2⟩ := okWide_int u3 (hval 1 3 v2 rfl rfl)
  obtain ⟨z3, e3⟩ := okWide_int u3 (hval 2 3 v3 rfl rfl)
  obtain ⟨z4, e4⟩ := okWide_int u3 (hval 3 3 v4 rfl rfl)
  obtain ⟨z5, e5⟩ := okWide_int u3 (hval 4 3 v5 rfl rfl)
  subst e1
  subst e2
  subst e3
  subst e4
  subst e5
  clear hA0 hval0
  simp only [List.append_nil] at hW' hlt
  refine (lawEnd (exprChecks_ok oa1 n1 cap1 z2 z3 z4 z5 l1 hw1 hn1 W hm1)).mono fun e W' ⟨he, hb⟩ => ?_
  subst he
  exact ⟨_, rfl, post_below (pa := p1 ++ (p2 ++ (p3 ++ (p4 ++ p5)))) (pv := []) hW' (fun _ _ _ => trodAll_mk1 (shut_bool Try.underlying4 _))
    (fun sp hs => ⟨_, _, stays (t := 22) (by kernel_rfl) (of_decide_eq_true (by kernel_rfl)) h1 hb (fun p hp => hlt p (by simp only [List.mem_append]; exact .inl hp)) (fun p hp => hs p (by simp only [List.mem_append]; exact .inl hp)), ⟨_, _, stays (t := 3) (by kernel_rfl) (of_decide_eq_true (by kernel_rfl)) h2 hb (fun p hp => hlt p (by simp only [List.mem_append]; exact .inr (.inl hp))) (fun p hp => hs p (by simp only [List.mem_append]; exact .inr (.inl hp))), ⟨_, _, stays (t := 3) (by kernel_rfl) (of_decide_eq_true (by kernel_rfl)) h3 hb (fun p hp => hlt p (by simp only [List.mem_append]; exact .inr (.inr (.inl hp)))) (fun p hp => hs p (by simp only [List.mem_append]; exact .inr (.inr (.inl hp)))), ⟨_, _, stays (t := 3) (by kernel_rfl) (of_decide_eq_true (by kernel_rfl)) h4 hb (fun p hp => hlt p (by simp only [List.mem_append]; exact .inr (.inr (.inr (.inl hp))))) (fun p hp => hs p (by simp only [List.mem_append]; exact .inr (.inr (.inr (.inl hp))))), trodAll_mk1 (stays (t := 3) (by kernel_rfl) (of_decide_eq_true (by kernel_rfl)) h5 hb (fun p hp => hlt p (by simp only [List.mem_append]; exact .inr (.inr (.inr (.inr hp))))) (fun p hp => hs p (by simp only [List.mem_append]; exact .inr (.inr (.inr (.inr hp)))))), rfl⟩, rfl⟩, rfl⟩, rfl⟩) (fun _ _ => rfl) (by simp)
    hb (ok_one (by kernel_rfl) rfl (okWide_bool_mk Try.underlying4 _))⟩

theorem exprChecks_holds : Rows.ExprChecksSaid :=
  OpenClaim.holds_of_wide 12 Try.f12 rfl rfl rfl rfl rfl rfl rfl ⟨rfl, rfl, rfl, rfl, rfl⟩ rfl rfl rfl rfl rfl (by kernel_rfl) Try.func12 (by kernel_rfl)
    (of_decide_eq_true (by kernel_rfl)) (by unfold Func.isWrapper; first | (rw [if_pos (by decide +kernel)]; kernel_rfl) | (rw [if_neg (by decide +kernel)]; exact ⟨rfl, rfl⟩))
    (fun os started H enc _ => exprChecks_lifted os started H enc)
#print axioms exprChecks_holds
end Go.Proofs.Ytpghmnpbfaichaa