/- The law SheetMods holds: values with the modulus put to them are the same. -/
import Derived.Test.YtlmjdcbhpffanaaRows
import Derived.Test.YtlmjdcbhpffanaaM1
import Derived.Test.YtlmjdcbhpffanaaM4
import Derived.WideKeyArgs
namespace Go.Proofs.Ytlmjdcbhpffanaa
open Go.ChangeShapes Go.WideShapes Go.ChangeAt Go.RowKit Go.Sx Go.Pl
set_option linter.unusedVariables false
set_option maxRecDepth 100000
theorem ownKnobs : ownKnob Try.prog.godebug = none := by kernel_rfl
theorem below_same {B : Nat} {W W' : World} (h : Below B W W') {p : MemPlace} (hp : p.block < B) : W.sameAt W' p := by
  cases p with
  | cell b off =>
    show W'.cell? ⟨b, off, none⟩ = W.cell? ⟨b, off, none⟩
    unfold World.cell?
    rw [h.block b hp]
  | map b => exact h.block b hp
theorem laid : laidOutB Try.prog = true := by kernel_rfl
theorem stays {H : Type} {enc : TypeId × Value → H} {t : TypeId} (hr : Try.prog.readableRec t = true) (ht : t < Try.prog.types.size) {W W' : World} {sp' : Nat → Bool} {v : Value} {d : DataW H} {ps : List MemPlace}
    (h : DataW.Trod enc Try.prog W 0 (fun _ => true) true t v d ps) (hb : Below W.heap.size W W') (hlt : ∀ p ∈ ps, p.block < W.heap.size) (hs : ∀ p ∈ ps, sp' p.block = true) : DataW.Trod enc Try.prog W' 0 sp' true t v d ps :=
  Go.WideElems.Trod_stays laid hr ht h (fun p hp => below_same hb (hlt p hp)) hs
theorem okWide_agg {w : World} {r : Reach} {b0 : Nat} {t : TypeId} {v : Value} (ht : (match Try.prog.underlying t with | some (.struct _) => true | some (.array _ _) => true | _ => false) = true) (h : Value.okWide Try.prog w r b0 t v) : ∃ cs, v = .agg cs ∧ cs.size = Try.prog.cellsOf t := by
  unfold Value.okWide at h
  split at h
  · obtain ⟨cs, h1, h2, _⟩ := h; exact ⟨cs, h1, h2⟩
  · obtain ⟨cs, h1, h2, _⟩ := h; exact ⟨cs, h1, h2⟩
  · rename_i h1 h2
    split at ht
    · rename_i fs hu; exact absurd hu (h1 fs)
    · rename_i n e hu; exact absurd hu (h2 n e)
    · cases ht
theorem repV_val {M : Mem} {u x : Value} (h : repV M u (.v x)) : u = x := by
  obtain ⟨f, _, h1, h2⟩ := h
  exact h1.symm.trans h2

theorem sheetMods_lifted (os : Os) (started : os.Started) (H : Type) (enc : TypeId × Value → H) :
    ReturnsInHanded {} Try.checked os 8 .any (Rows.sheetModsSpec.pre6 enc Try.prog Try.f8 Rows.sheetModsRow.domain false) (Rows.sheetModsSpec.post enc Try.prog Try.f8 false true false false) := by
  refine returnsInHanded_of_change_sized (C := Try.checked) ownKnobs started (by kernel_rfl) Try.func8
    (ChangeSpec.witness6 (enc := enc) (C := Try.checked) false ⟨#[], #[.int .i64 0, .agg #[.int .i64 0, .int .i64 0, .int .i64 0, .slice none 0 0, .slice none 0 0, .slice none 0 0, .slice none 0 0], .int .i64 0, .agg #[.slice none 0 0, .slice none 0 0, .slice none 0 0, .slice none 0 0]], []⟩ 8 (by kernel_rfl) (by kernel_rfl) (by kernel_rfl) (by kernel_rfl)) ?_
  intro W base args ds gs before hval0 hW hcnd hsz0 _
  have hW' := hW
  have hlt : ∀ p ∈ before, p.block < W.heap.size := fun p hp => hW.lt p hp
  obtain ⟨p, q, hA0, hV, rfl, hfz, hnd⟩ := hW
  have hA : DataW.TrodAll enc Try.prog W 0 (fun _ => true) true Try.f8.params.toList args.toList ds p := hA0
  have hval : ∀ (j : Nat) t v, Try.f8.params[j]? = some t → args[j]? = some v → Value.okWide Try.prog W .any base t v := hval0
  have hsz : (DataW.weightsEach Try.prog (Try.f8.params.toList ++ Rows.sheetModsSpec.plain.varTypes Try.prog) (ds ++ gs)).all (· ≤ reachBytes) = true := hsz0
  rw [Try.params8] at hA hval hsz
  obtain ⟨v1, vs1, d1, ds1, p1, q1, ha1, rfl, rfl, h1, hA1⟩ := trodAll_cons hA
  obtain ⟨v2, vs2, d2, ds2, p2, q2, rfl, rfl, rfl, h2, hA2⟩ := trodAll_cons hA1
  obtain ⟨v3, vs3, d3, ds3, p3, q3, rfl, rfl, rfl, h3, hA3⟩ := trodAll_cons hA2
  obtain ⟨v4, vs4, d4, ds4, p4, q4, rfl, rfl, rfl, h4, hA4⟩ := trodAll_cons hA3
  obtain ⟨rfl, rfl, rfl⟩ := trodAll_nil hA4
  obtain rfl : args = #[v1, v2, v3, v4] := by cases args; simp_all
  obtain ⟨rfl, rfl⟩ := trodVars_none hV
  have hws := fun x hx => of_decide_eq_true (List.all_eq_true.1 hsz x hx)
  have w1 : wOk Try.prog 3 d1 := fun x hx => hws x (DataW.weights_mem_each (j := 0) rfl rfl x hx)
  have w2 : wOk Try.prog 27 d2 := fun x hx => hws x (DataW.weights_mem_each (j := 1) rfl rfl x hx)
  have w3 : wOk Try.prog 3 d3 := fun x hx => hws x (DataW.weights_mem_each (j := 2) rfl rfl x hx)
  have w4 : wOk Try.prog 49 d4 := fun x hx => hws x (DataW.weights_mem_each (j := 3) rfl rfl x hx)
  obtain ⟨x1, e1⟩ := okWide_int u3 (hval 0 3 v1 rfl rfl)
  subst e1
  obtain ⟨y1, ok1, r1⟩ := cod_i.arg1 h1 w1 rfl
  have e1 := repV_val r1
  simp only [Value.int.injEq, true_and] at e1
  rw [← e1] at ok1
  obtain ⟨cs2, e2, hs2⟩ := okWide_agg (by kernel_rfl) (hval 1 27 v2 rfl rfl)
  subst e2
  obtain ⟨x2, ok2, r2⟩ := cod_c.argN h2 w2 hs2
  obtain ⟨u2_0, g2_0, r2_0⟩ := r2 0 (by omega)
  have := repV_val r2_0
  subst this
  obtain ⟨u2_1, g2_1, r2_1⟩ := r2 1 (by omega)
  have := repV_val r2_1
  subst this
  obtain ⟨u2_2, g2_2, r2_2⟩ := r2 2 (by omega)
  have := repV_val r2_2
  subst this
  obtain ⟨u2_3, g2_3, r2_3⟩ := r2 3 (by omega)
  obtain ⟨u2_4, g2_4, r2_4⟩ := r2 4 (by omega)
  obtain ⟨u2_5, g2_5, r2_5⟩ := r2 5 (by omega)
  obtain ⟨u2_6, g2_6, r2_6⟩ := r2 6 (by omega)
  have hc2 : cs2 = #[.int .i64 x2.fx, .int .i64 x2.ad, .int .i64 x2.ins, u2_3, u2_4, u2_5, u2_6] := by
    rw [c27] at hs2
    refine Array.ext hs2 fun j hj _ => ?_
    rw [hs2] at hj
    match j, hj with
    | 0, _ => exact Option.some.inj ((Array.getElem?_eq_getElem (by omega)).symm.trans g2_0)
    | 1, _ => exact Option.some.inj ((Array.getElem?_eq_getElem (by omega)).symm.trans g2_1)
    | 2, _ => exact Option.some.inj ((Array.getElem?_eq_getElem (by omega)).symm.trans g2_2)
    | 3, _ => exact Option.some.inj ((Array.getElem?_eq_getElem (by omega)).symm.trans g2_3)
    | 4, _ => exact Option.some.inj ((Array.getElem?_eq_getElem (by omega)).symm.trans g2_4)
    | 5, _ => exact Option.some.inj ((Array.getElem?_eq_getElem (by omega)).symm.trans g2_5)
    | 6, _ => exact Option.some.inj ((Array.getElem?_eq_getElem (by omega)).symm.trans g2_6)
  subst hc2
  obtain ⟨x3, e3⟩ := okWide_int u3 (hval 2 3 v3 rfl rfl)
  subst e3
  obtain ⟨y3, ok3, r3⟩ := cod_i.arg1 h3 w3 rfl
  have e3 := repV_val r3
  simp only [Value.int.injEq, true_and] at e3
  rw [← e3] at ok3
  obtain ⟨cs4, e4, hs4⟩ := okWide_agg (by kernel_rfl) (hval 3 49 v4 rfl rfl)
  subst e4
  obtain ⟨x4, ok4, r4⟩ := cod_s.argN h4 w4 hs4
  obtain ⟨u4_0, g4_0, r4_0⟩ := r4 0 (by omega)
  obtain ⟨u4_1, g4_1, r4_1⟩ := r4 1 (by omega)
  obtain ⟨u4_2, g4_2, r4_2⟩ := r4 2 (by omega)
  obtain ⟨u4_3, g4_3, r4_3⟩ := r4 3 (by omega)
  have hc4 : cs4 = #[u4_0, u4_1, u4_2, u4_3] := by
    rw [c49] at hs4
    refine Array.ext hs4 fun j hj _ => ?_
    rw [hs4] at hj
    match j, hj with
    | 0, _ => exact Option.some.inj ((Array.getElem?_eq_getElem (by omega)).symm.trans g4_0)
    | 1, _ => exact Option.some.inj ((Array.getElem?_eq_getElem (by omega)).symm.trans g4_1)
    | 2, _ => exact Option.some.inj ((Array.getElem?_eq_getElem (by omega)).symm.trans g4_2)
    | 3, _ => exact Option.some.inj ((Array.getElem?_eq_getElem (by omega)).symm.trans g4_3)
  subst hc4
  clear hA0 hval0 hsz0 hsz
  simp only [List.append_nil] at hW' hlt
  have hrep : ∀ (i : Nat) u c, ([u2_3, u2_4, u2_5, u2_6, u4_0, u4_1, u4_2, u4_3] : List Value)[i]? = some u → ([.s false 7 x2.nodes.length (cN x2.nodes), .s false 1 x2.gates.length (cI x2.gates), .s false 2 x2.looks.length (cL x2.looks), .s false 2 x2.eqs.length (cK x2.eqs), .s false 1 x4.fx.length (cT x4.fx), .s false 1 x4.ad.length (cT x4.ad), .s false 1 x4.is.length (cT x4.is), .s false 4 x4.cp.length (cP x4.cp)] : List Cell)[i]? = some c → repV (wmem W) u c := by
    intro i u c hu hc
    match i with
    | 0 => cases hu; cases hc; exact r2_3
    | 1 => cases hu; cases hc; exact r2_4
    | 2 => cases hu; cases hc; exact r2_5
    | 3 => cases hu; cases hc; exact r2_6
    | 4 => cases hu; cases hc; exact r4_0
    | 5 => cases hu; cases hc; exact r4_1
    | 6 => cases hu; cases hc; exact r4_2
    | 7 => cases hu; cases hc; exact r4_3
    | m + 8 => cases hu
  refine (lawCalls (P := Try.prog) (f := 8) (args := [.v (.int .i64 x1), .agg [.v (.int .i64 x2.fx), .v (.int .i64 x2.ad), .v (.int .i64 x2.ins), .x 0 [], .x 1 [], .x 2 [], .x 3 []], .v (.int .i64 x3), .agg [.x 4 [], .x 5 [], .x 6 [], .x 7 []]]) [.s false 7 x2.nodes.length (cN x2.nodes), .s false 1 x2.gates.length (cI x2.gates), .s false 2 x2.looks.length (cL x2.looks), .s false 2 x2.eqs.length (cK x2.eqs), .s false 1 x4.fx.length (cT x4.fx), .s false 1 x4.ad.length (cT x4.ad), .s false 1 x4.is.length (cT x4.is), .s false 4 x4.cp.length (cP x4.cp)] [u2_3, u2_4, u2_5, u2_6, u4_0, u4_1, u4_2, u4_3] rfl hrep (by simp [wsL, ws]) (smods_ok x2 ok2 x4 ok4 x1 x3 _ rfl) [.int .i64 x1, .agg #[.int .i64 x2.fx, .int .i64 x2.ad, .int .i64 x2.ins, u2_3, u2_4, u2_5, u2_6], .int .i64 x3, .agg #[u4_0, u4_1, u4_2, u4_3]] (fun e he => by simp only [denL, den, he 0 _ rfl, he 1 _ rfl, he 2 _ rfl, he 3 _ rfl, he 4 _ rfl, he 5 _ rfl, he 6 _ rfl, he 7 _ rfl])).mono fun e W' ⟨he, hb⟩ => ?_
  subst he
  exact ⟨_, rfl, post_below (pa := p1 ++ (p2 ++ (p3 ++ p4))) (pv := []) hW' (fun _ _ _ => trodAll_mk1 (shut_bool u4 _))
    (fun sp hs => ⟨_, _, stays (t := 3) (by kernel_rfl) (of_decide_eq_true (by kernel_rfl)) h1 hb (fun p hp => hlt p (by simp only [List.mem_append]; exact .inl hp)) (fun p hp => hs p (by simp only [List.mem_append]; exact .inl hp)), ⟨_, _, stays (t := 27) (by kernel_rfl) (of_decide_eq_true (by kernel_rfl)) h2 hb (fun p hp => hlt p (by simp only [List.mem_append]; exact .inr (.inl hp))) (fun p hp => hs p (by simp only [List.mem_append]; exact .inr (.inl hp))), ⟨_, _, stays (t := 3) (by kernel_rfl) (of_decide_eq_true (by kernel_rfl)) h3 hb (fun p hp => hlt p (by simp only [List.mem_append]; exact .inr (.inr (.inl hp)))) (fun p hp => hs p (by simp only [List.mem_append]; exact .inr (.inr (.inl hp)))), trodAll_mk1 (stays (t := 49) (by kernel_rfl) (of_decide_eq_true (by kernel_rfl)) h4 hb (fun p hp => hlt p (by simp only [List.mem_append]; exact .inr (.inr (.inr hp)))) (fun p hp => hs p (by simp only [List.mem_append]; exact .inr (.inr (.inr hp))))), rfl⟩, rfl⟩, rfl⟩) (fun _ _ => rfl) (by simp)
    hb (ok_one (by kernel_rfl) rfl (okWide_bool_mk u4 _))⟩

theorem sheetMods_holds : Rows.SheetModsSaid :=
  OpenClaim.holds_of_wide 8 Try.f8 rfl rfl rfl rfl rfl rfl rfl ⟨rfl, rfl, rfl, rfl, rfl⟩ rfl rfl rfl rfl rfl (by kernel_rfl) Try.func8 (by kernel_rfl)
    (of_decide_eq_true (by kernel_rfl)) (by unfold Func.isWrapper; first | (rw [if_pos (by decide +kernel)]; kernel_rfl) | (rw [if_neg (by decide +kernel)]; exact ⟨rfl, rfl⟩))
    (fun os started H enc _ => sheetMods_lifted os started H enc)
#print axioms sheetMods_holds
end Go.Proofs.Ytlmjdcbhpffanaa
