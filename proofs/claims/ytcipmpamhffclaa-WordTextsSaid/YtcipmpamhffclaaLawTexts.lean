/- The law WordTexts holds: every Show, Hex and Bit answers what the document says. -/
import Derived.Test.YtcipmpamhffclaaRows
import Derived.Test.YtcipmpamhffclaaSx22
import Derived.Test.YtcipmpamhffclaaV0
import Derived.Test.YtcipmpamhffclaaT21
namespace Go.Proofs.Ytcipmpamhffclaa
open Go.ChangeShapes Go.WideShapes Go.ChangeAt Go.RowKit Go.Sx Go.Pl

theorem u3 : Try.prog.underlying 3 = some (.int .i64) := by kernel_rfl
theorem int_open {H : Type} {enc : TypeId × Value → H} {w : World} {r : Reach} {b0 base : Nat} {sp : Nat → Bool} {hd : Bool} {v : Value} {d : DataW H} {p : List MemPlace} (hval : Value.okWide Try.prog w r b0 3 v)
    (h : DataW.Trod enc Try.prog w base sp hd 3 v d p) : ∃ z : Int, v = .int .i64 z ∧ p = [] ∧ ∀ (w' : World) (base' : Nat) (sp' : Nat → Bool) (hd' : Bool), DataW.Trod enc Try.prog w' base' sp' hd' 3 v d [] := by
  obtain ⟨fuel, hf⟩ := h
  obtain ⟨z, h1, h2, h3⟩ := DataW.trod_int u3 hf
  have hv : v = .int .i64 z := by
    simp only [Value.okWide, u3] at hval
    cases v <;> simp_all [Value.cells, Cell.okWide, Cell.ok, u3]
  subst hv
  simp only [Prod.mk.injEq] at h2
  obtain ⟨rfl, rfl⟩ := h2
  refine ⟨z, rfl, rfl, fun w' base' sp' hd' => ⟨1, ?_⟩⟩
  show DataW.trod enc Try.prog w' base' sp' hd' 1 3 [.int .i64 z] = some (.lit (.int .i64 z), [])
  simp [DataW.trod, h3]

theorem ownKnobs : ownKnob Try.prog.godebug = none := by kernel_rfl

set_option maxRecDepth 100000 in
theorem wordTexts_lifted (os : Os) (started : os.Started) (H : Type) (enc : TypeId × Value → H) :
    ReturnsInHanded {} Try.checked os 9 .any (Rows.wordTextsSpec.pre6 enc Try.prog Try.f9 Rows.wordTextsRow.domain false) (Rows.wordTextsSpec.post enc Try.prog Try.f9 false true false false) := by
  refine returnsInHanded_of_change (C := Try.checked) ownKnobs started (by kernel_rfl) Try.func9
    (ChangeSpec.witness6 (enc := enc) (C := Try.checked) false ⟨#[], #[.agg #[.int .u64 0, .int .u64 0, .int .u64 0, .int .u64 0], .int .i64 0], []⟩ 8 (by kernel_rfl) (by kernel_rfl) (by kernel_rfl) (by kernel_rfl)) ?_
  intro W base args ds gs before hval0 hW hcnd _
  have hW' := hW
  obtain ⟨p, q, hA0, hV, rfl, hfz, hnd⟩ := hW
  have hA : DataW.TrodAll enc Try.prog W 0 (fun _ => true) true Try.f9.params.toList args.toList ds p := hA0
  have hval : ∀ (j : Nat) t v, Try.f9.params[j]? = some t → args[j]? = some v → Value.okWide Try.prog W .any base t v := hval0
  rw [Try.params9] at hA hval
  obtain ⟨v1, vs1, d1, ds1, p1, q1, ha1, rfl, rfl, h1, hA1⟩ := trodAll_cons hA
  obtain ⟨v2, vs2, d2, ds2, p2, q2, rfl, rfl, rfl, h2, hA2⟩ := trodAll_cons hA1
  obtain ⟨rfl, rfl, rfl⟩ := trodAll_nil hA2
  obtain rfl : args = #[v1, v2] := by cases args; simp_all
  obtain ⟨rfl, rfl⟩ := trodVars_none hV
  obtain ⟨a, la, rfl, rfl, ta⟩ := elem_open (hval 0 24 v1 rfl rfl) h1
  obtain ⟨b, rfl, rfl, tb⟩ := int_open (hval 1 3 v2 rfl rfl) h2
  clear hA0 hval0
  simp only [List.append_nil] at hW'
  refine (lawEnd (texts_ok a b la W)).mono fun e W' ⟨he, hb⟩ => ?_
  subst he
  exact ⟨_, rfl, post_below (pa := []) (pv := []) hW' (fun _ _ _ => trodAll_mk1 (shut_bool Try.underlying4 _))
    (fun sp _ => ⟨[], [], ta _ _ _ _, trodAll_mk1 (tb _ _ _ _), rfl⟩) (fun _ _ => rfl) rfl
    hb (ok_one (by kernel_rfl) rfl (okWide_bool_mk Try.underlying4 _))⟩

theorem wordTexts_holds : Rows.WordTextsSaid :=
  OpenClaim.holds_of_wide 9 Try.f9 rfl rfl rfl rfl rfl rfl rfl ⟨rfl, rfl, rfl, rfl, rfl⟩ rfl rfl rfl rfl rfl (by kernel_rfl) Try.func9 (by kernel_rfl)
    (of_decide_eq_true (by kernel_rfl)) (by unfold Func.isWrapper; first | (rw [if_pos (by decide +kernel)]; kernel_rfl) | (rw [if_neg (by decide +kernel)]; exact ⟨rfl, rfl⟩))
    (fun os started H enc _ => wordTexts_lifted os started H enc)
#print axioms wordTexts_holds
end Go.Proofs.Ytcipmpamhffclaa