/- The law ExprValues holds: every Values answers what the document says. -/
import Derived.Test.YtpghmnpbfaichaaRows
import Derived.Test.YtpghmnpbfaichaaM1
import Derived.Test.YtpghmnpbfaichaaM4
import Derived.WideKeyArgs
namespace Go.Proofs.Ytpghmnpbfaichaa
open Go.ChangeShapes Go.WideShapes Go.ChangeAt Go.RowKit Go.Sx Go.Pl
set_option linter.unusedVariables false
set_option maxRecDepth 100000
theorem ownKnobs : ownKnob Try.prog.godebug = none := by kernel_rfl
theorem below_same {B : Nat} {W W' : World} (h : Below B W W') {p : MemPlace} (hp : p.block < B) : W.sameAt W' p := by
  cases p with
  | cell b off =>
    show W'.cell? ⟨b, off, none⟩ = W.cell? ⟨b, off, none⟩
    unfold World.cell?
    rw [h.block b hp]
  | map b => exact h.block b hp
theorem laid : laidOutB Try.prog = true := by kernel_rfl
theorem stays {H : Type} {enc : TypeId × Value → H} {t : TypeId} (hr : Try.prog.readableRec t = true) (ht : t < Try.prog.types.size) {W W' : World} {sp' : Nat → Bool} {v : Value} {d : DataW H} {ps : List MemPlace}
    (h : DataW.Trod enc Try.prog W 0 (fun _ => true) true t v d ps) (hb : Below W.heap.size W W') (hlt : ∀ p ∈ ps, p.block < W.heap.size) (hs : ∀ p ∈ ps, sp' p.block = true) : DataW.Trod enc Try.prog W' 0 sp' true t v d ps :=
  Go.WideElems.Trod_stays laid hr ht h (fun p hp => below_same hb (hlt p hp)) hs
theorem okWide_agg {w : World} {r : Reach} {b0 : Nat} {t : TypeId} {v : Value} (ht : (match Try.prog.underlying t with | some (.struct _) => true | some (.array _ _) => true | _ => false) = true) (h : Value.okWide Try.prog w r b0 t v) : ∃ cs, v = .agg cs ∧ cs.size = Try.prog.cellsOf t := by
  unfold Value.okWide at h
  split at h
  · obtain ⟨cs, h1, h2, _⟩ := h; exact ⟨cs, h1, h2⟩
  · obtain ⟨cs, h1, h2, _⟩ := h; exact ⟨cs, h1, h2⟩
  · rename_i h1 h2
    split at ht
    · rename_i fs hu; exact absurd hu (h1 fs)
    · rename_i n e hu; exact absurd hu (h2 n e)
    · cases ht
theorem repV_val {M : Mem} {u x : Value} (h : repV M u (.v x)) : u = x := by
  obtain ⟨f, _, h1, h2⟩ := h
  exact h1.symm.trans h2

theorem exprValues_lifted (os : Os) (started : os.Started) (H : Type) (enc : TypeId × Value → H) :
    ReturnsInHanded {} Try.checked os 8 .any (Rows.exprValuesSpec.pre6 enc Try.prog Try.f8 Rows.exprValuesRow.domain false) (Rows.exprValuesSpec.post enc Try.prog Try.f8 false true false false) := by
  refine returnsInHanded_of_change_sized (C := Try.checked) ownKnobs started (by kernel_rfl) Try.func8
    (ChangeSpec.witness6 (enc := enc) (C := Try.checked) false ⟨#[], #[.int .i64 0, .slice none 0 0, .slice none 0 0, .slice none 0 0], []⟩ 8 (by kernel_rfl) (by kernel_rfl) (by kernel_rfl) (by kernel_rfl)) ?_
  intro W base args ds gs before hval0 hW hcnd hsz0 _
  have hW' := hW
  have hlt : ∀ p ∈ before, p.block < W.heap.size := fun p hp => hW.lt p hp
  obtain ⟨p, q, hA0, hV, rfl, hfz, hnd⟩ := hW
  have hA : DataW.TrodAll enc Try.prog W 0 (fun _ => true) true Try.f8.params.toList args.toList ds p := hA0
  have hval : ∀ (j : Nat) t v, Try.f8.params[j]? = some t → args[j]? = some v → Value.okWide Try.prog W .any base t v := hval0
  have hsz : (DataW.weightsEach Try.prog (Try.f8.params.toList ++ Rows.exprValuesSpec.plain.varTypes Try.prog) (ds ++ gs)).all (· ≤ reachBytes) = true := hsz0
  rw [Try.params8] at hA hval hsz
  obtain ⟨v1, vs1, d1, ds1, p1, q1, ha1, rfl, rfl, h1, hA1⟩ := trodAll_cons hA
  obtain ⟨v2, vs2, d2, ds2, p2, q2, rfl, rfl, rfl, h2, hA2⟩ := trodAll_cons hA1
  obtain ⟨v3, vs3, d3, ds3, p3, q3, rfl, rfl, rfl, h3, hA3⟩ := trodAll_cons hA2
  obtain ⟨v4, vs4, d4, ds4, p4, q4, rfl, rfl, rfl, h4, hA4⟩ := trodAll_cons hA3
  obtain ⟨rfl, rfl, rfl⟩ := trodAll_nil hA4
  obtain rfl : args = #[v1, v2, v3, v4] := by cases args; simp_all
  obtain ⟨rfl, rfl⟩ := trodVars_none hV
  have hws := fun x hx => of_decide_eq_true (List.all_eq_true.1 hsz x hx)
  have w1 : wOk Try.prog 3 d1 := fun x hx => hws x (DataW.weights_mem_each (j := 0) rfl rfl x hx)
  have w2 : wOk Try.prog 22 d2 := fun x hx => hws x (DataW.weights_mem_each (j := 1) rfl rfl x hx)
  have w3 : wOk Try.prog 48 d3 := fun x hx => hws x (DataW.weights_mem_each (j := 2) rfl rfl x hx)
  have w4 : wOk Try.prog 51 d4 := fun x hx => hws x (DataW.weights_mem_each (j := 3) rfl rfl x hx)
  obtain ⟨x1, e1⟩ := okWide_int u3 (hval 0 3 v1 rfl rfl)
  subst e1
  obtain ⟨y1, ok1, r1⟩ := cod_i.arg1 h1 w1 rfl
  have e1 := repV_val r1
  simp only [Value.int.injEq, true_and] at e1
  rw [← e1] at ok1
  obtain ⟨oa2, n2, cap2, e2⟩ := okWide_slice u22 (hval 1 22 v2 rfl rfl)
  subst e2
  obtain ⟨x2, ok2, r2⟩ := cod_ns.arg1 h2 w2 rfl
  obtain ⟨oa3, n3, cap3, e3⟩ := okWide_slice u48 (hval 2 48 v3 rfl rfl)
  subst e3
  obtain ⟨x3, ok3, r3⟩ := cod_qs.arg1 h3 w3 rfl
  obtain ⟨oa4, n4, cap4, e4⟩ := okWide_slice u51 (hval 3 51 v4 rfl rfl)
  subst e4
  obtain ⟨x4, ok4, r4⟩ := cod_es.arg1 h4 w4 rfl
  clear hA0 hval0 hsz0 hsz
  simp only [List.append_nil] at hW' hlt
  have hrep : ∀ (i : Nat) u c, ([.slice oa2 n2 cap2, .slice oa3 n3 cap3, .slice oa4 n4 cap4] : List Value)[i]? = some u → ([.s false 7 x2.length (cN x2), .s false 3 x3.length (cQ x3), .s false 4 x4.length (cE x4)] : List Cell)[i]? = some c → repV (wmem W) u c := by
    intro i u c hu hc
    match i with
    | 0 => cases hu; cases hc; exact r2
    | 1 => cases hu; cases hc; exact r3
    | 2 => cases hu; cases hc; exact r4
    | m + 3 => cases hu
  refine (lawCalls (P := Try.prog) (f := 8) (args := [.v (.int .i64 x1), .x 0 [], .x 1 [], .x 2 []]) [.s false 7 x2.length (cN x2), .s false 3 x3.length (cQ x3), .s false 4 x4.length (cE x4)] [.slice oa2 n2 cap2, .slice oa3 n3 cap3, .slice oa4 n4 cap4] rfl hrep (by simp [wsL, ws]) (exprValues_ok x1 x2 x3 x4 ok4.2 (fun x hx => (ok2.1 x hx).1) ok4.1 _ rfl) [.int .i64 x1, .slice oa2 n2 cap2, .slice oa3 n3 cap3, .slice oa4 n4 cap4] (fun e he => by simp only [denL, den, he 0 _ rfl, he 1 _ rfl, he 2 _ rfl])).mono fun e W' ⟨he, hb⟩ => ?_
  subst he
  exact ⟨_, rfl, post_below (pa := p1 ++ (p2 ++ (p3 ++ p4))) (pv := []) hW' (fun _ _ _ => trodAll_mk1 (shut_bool u4 _))
    (fun sp hs => ⟨_, _, stays (t := 3) (by kernel_rfl) (of_decide_eq_true (by kernel_rfl)) h1 hb (fun p hp => hlt p (by simp only [List.mem_append]; exact .inl hp)) (fun p hp => hs p (by simp only [List.mem_append]; exact .inl hp)), ⟨_, _, stays (t := 22) (by kernel_rfl) (of_decide_eq_true (by kernel_rfl)) h2 hb (fun p hp => hlt p (by simp only [List.mem_append]; exact .inr (.inl hp))) (fun p hp => hs p (by simp only [List.mem_append]; exact .inr (.inl hp))), ⟨_, _, stays (t := 48) (by kernel_rfl) (of_decide_eq_true (by kernel_rfl)) h3 hb (fun p hp => hlt p (by simp only [List.mem_append]; exact .inr (.inr (.inl hp)))) (fun p hp => hs p (by simp only [List.mem_append]; exact .inr (.inr (.inl hp)))), trodAll_mk1 (stays (t := 51) (by kernel_rfl) (of_decide_eq_true (by kernel_rfl)) h4 hb (fun p hp => hlt p (by simp only [List.mem_append]; exact .inr (.inr (.inr hp)))) (fun p hp => hs p (by simp only [List.mem_append]; exact .inr (.inr (.inr hp))))), rfl⟩, rfl⟩, rfl⟩) (fun _ _ => rfl) (by simp)
    hb (ok_one (by kernel_rfl) rfl (okWide_bool_mk u4 _))⟩

theorem exprValues_holds : Rows.ExprValuesSaid :=
  OpenClaim.holds_of_wide 8 Try.f8 rfl rfl rfl rfl rfl rfl rfl ⟨rfl, rfl, rfl, rfl, rfl⟩ rfl rfl rfl rfl rfl (by kernel_rfl) Try.func8 (by kernel_rfl)
    (of_decide_eq_true (by kernel_rfl)) (by unfold Func.isWrapper; first | (rw [if_pos (by decide +kernel)]; kernel_rfl) | (rw [if_neg (by decide +kernel)]; exact ⟨rfl, rfl⟩))
    (fun os started H enc _ => exprValues_lifted os started H enc)
#print axioms exprValues_holds
end Go.Proofs.Ytpghmnpbfaichaa
