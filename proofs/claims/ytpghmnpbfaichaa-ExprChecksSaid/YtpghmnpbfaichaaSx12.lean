/- Regions that draw their order: what writes nothing may be taken first. -/
import Derived.Test.YtpghmnpbfaichaaSx11
namespace Go.Sx
open Go.RowKit

def isLoad (o : Oper) : Bool := match o.op with | .load .. => true | _ => false
/-- Is there a load that need not have come up ahead of operation j? -/
def nd0 (ops : Array Oper) (j : Nat) : Bool :=
  (List.range ops.size).any fun i => match ops[i]?, ops[j]? with
    | some oi, some oj => isLoad oi && !(Nat.beq i j) && !(oj.after.any fun e => Region.binds .any e && e.on == i)
    | _, _ => false
def isStore (o : Oper) : Bool := match o.op with | .store .. => true | _ => false
/-- Is there a store that may come up ahead of a load? Then no load is taken first. -/
def late (ops : Array Oper) : Bool :=
  (List.range ops.size).any fun j => match ops[j]? with
    | some o => isStore o && nd0 ops j
    | _ => false
def ndOf (ops : Array Oper) (j : Nat) : Bool := bif late ops then false else nd0 ops j
def early (ops : Array Oper) (o : Oper) : Bool := bif isLoad o then !late ops else true
theorem early_spec {ops : Array Oper} {o : Oper} (h : early ops o = true) (hl : isLoad o = true) : late ops = false := by
  unfold early at h
  rw [hl] at h
  simpa using h
def Stable (S : World → Prop) : Prop := ∀ w w', Grow w w' → S w → S w'

section
variable {P : Program} {ops : Array Oper} {Q : Exit → Act → World → Prop} {S : World → Prop}
def wpAnyG (P : Program) (ops : Array Oper) (Q : Exit → Act → World → Prop) : Nat → Array Bool → Act → World → Prop
  | 0, listed, a, w => Region.ready .any ops listed = [] ∧ Q .normal a w
  | fuel + 1, listed, a, w =>
    (Region.ready .any ops listed = [] → Q .normal a w) ∧
    ∀ i ∈ Region.ready .any ops listed, wpOp P ops Q i (fun a' w' => (ndOf ops i = true → Grow w w') ∧ wpAnyG P ops Q fuel (listed.setIfInBounds i true) a' w') a w
theorem wpAny_of_G : ∀ (fuel : Nat) (listed : Array Bool) (a : Act) (w : World), wpAnyG P ops Q fuel listed a w → wpAny P .any ops Q fuel listed a w
  | 0, _, _, _, h => h
  | fuel + 1, _, _, _, h => ⟨h.1, fun i hi => wpOp_mono (fun a' w' h' => wpAny_of_G fuel _ a' w' h'.2) (h.2 i hi)⟩

theorem nd_of_not {i j : Nat} {oi oj : Oper} (hi : ops[i]? = some oi) (hj : ops[j]? = some oj) (hl : isLoad oi = true) (hne : j ≠ i)
    (hno : ∀ e ∈ oj.after, Region.binds .any e = true → e.on ≠ i) (hlate : late ops = false) : ndOf ops j = true := by
  unfold ndOf
  rw [hlate]
  simp only [cond_false]
  unfold nd0
  rw [List.any_eq_true]
  refine ⟨i, List.mem_range.2 (Array.getElem?_eq_some_iff.1 hi).1, ?_⟩
  simp only [hi, hj, hl, Bool.true_and]
  have h1 : Nat.beq i j = false := by
    cases hb : Nat.beq i j with
    | false => rfl
    | true => exact absurd (Nat.eq_of_beq_eq_true hb).symm hne
  rw [h1]
  simp only [Bool.not_false, Bool.true_and, Bool.not_eq_true']
  rw [Bool.eq_false_iff]
  intro hh
  rw [Array.any_eq_true] at hh
  obtain ⟨q, hq, hb⟩ := hh
  rw [Bool.and_eq_true] at hb
  exact hno _ (Array.getElem_mem hq) hb.1 (by simpa using hb.2)

theorem wpAnyG_first (hSt : Stable S) {i : Nat} {oi : Oper} {v : Value} (hi : ops[i]? = some oi) (hlt : isLoad oi = true → late ops = false) (hsel : ∀ (j : Nat) (o : Oper) cs b, ops[j]? = some o → o.op ≠ .select cs b)
    (hQ : ∀ c a w, Q (.panic c) (a.put oi.dst v) w → Q (.panic c) a w) :
    ∀ (fuel : Nat) (listed : Array Bool) (a : Act) (w : World),
      (∀ j oj, ops[j]? = some oj → j ≠ i → listed.getD j true = false → (∀ e ∈ oj.after, Region.binds .any e = true → e.on ≠ i) → oi.apart ops oj = true) →
      i ∈ Region.ready .any ops listed → YieldsIf P ops (fun w => isLoad oi = true → S w) oi v a → (isLoad oi = true → S w) →
      wpAnyG P ops Q fuel (listed.setIfInBounds i true) (a.put oi.dst v) w → wpAnyG P ops Q (fuel + 1) listed a w := by
  intro fuel
  induction fuel with
  | zero =>
    intro listed a w _ hr hy hS H
    refine ⟨fun h => (by rw [h] at hr; cases hr), fun j hj => ?_⟩
    by_cases hji : j = i
    · subst hji; exact hy.wpOp hi hS ⟨fun _ _ _ => rfl, H⟩
    · have := ready_mono hj hji
      rw [H.1] at this
      cases this
  | succ fuel ih =>
    intro listed a w hfree hr hy hS H
    refine ⟨fun h => (by rw [h] at hr; cases hr), fun j hj => ?_⟩
    by_cases hji : j = i
    · subst hji; exact hy.wpOp hi hS ⟨fun _ _ _ => rfl, H⟩
    · have h1 := H.2 j (ready_mono hj hji)
      obtain ⟨hjun, oj, hoj, hall⟩ := mem_ready.1 hj
      have hnot : ∀ e ∈ oj.after, Region.binds .any e = true → e.on ≠ i := fun e he hb heq => by
        have h1 := hall e he hb
        have h0 := (mem_ready.1 hr).1
        rw [heq] at h1
        rcases Nat.lt_or_ge i listed.size with h' | h'
        · simp [h'] at h0 h1; rw [h0] at h1; cases h1
        · simp [Array.getElem?_eq_none h'] at h1
      have h2 := wpOp_putIf hoj (hfree j oj hoj hji hjun hnot) (fun cs b => hsel i oi cs b hi) (fun cs b => hsel j oj cs b hoj) hQ hy h1
      have hfree' : ∀ k ok, ops[k]? = some ok → k ≠ i → (listed.setIfInBounds j true).getD k true = false →
          (∀ e ∈ ok.after, Region.binds .any e = true → e.on ≠ i) → oi.apart ops ok = true := fun k ok hk hki hun hno => by
        refine hfree k ok hk hki ?_ hno
        by_cases hjk : j = k
        · subst hjk; exact hjun
        · rw [getD_set_ne true hjk] at hun; exact hun
      refine wpOp_mono (fun a' w' h3 => ⟨h3.2.1, ih (listed.setIfInBounds j true) a' w' hfree' (ready_mono hr (Ne.symm hji)) h3.1 (fun hl => ?_) ?_⟩) h2
      · exact hSt w w' (h3.2.1 (nd_of_not hi hoj hl hji hnot (hlt hl))) (hS hl)
      · rw [Array.setIfInBounds_comm _ _ hji]
        exact h3.2.2

theorem wpAnyG_take (hSt : Stable S) {i : Nat} {oi : Oper} {v : Value} {fuel : Nat} {listed : Array Bool} {a : Act} {w : World} (hi : ops[i]? = some oi) (hlt : isLoad oi = true → late ops = false)
    (hs : Region.noSelect ops = true) (hf : Region.free .any ops listed i = true) (hr : (Region.ready .any ops listed).contains i = true)
    (hQ : ∀ c a w, Q (.panic c) (a.put oi.dst v) w → Q (.panic c) a w) (hy : YieldsIf P ops (fun w => isLoad oi = true → S w) oi v a) (hS : S w)
    (h : wpAnyG P ops Q fuel (listed.setIfInBounds i true) (a.put oi.dst v) w) : wpAnyG P ops Q (fuel + 1) listed a w :=
  wpAnyG_first hSt hi hlt (Region.noSelect_spec hs) hQ fuel listed a w (Region.free_spec hi hf) (by simpa using hr) hy (fun _ => hS) h
theorem wpAnyG_done {listed : Array Bool} {a : Act} {w : World} (hr : Region.ready .any ops listed = []) (h : Q .normal a w) : ∀ fuel, wpAnyG P ops Q fuel listed a w
  | 0 => ⟨hr, h⟩
  | _ + 1 => ⟨fun _ => h, by rw [hr]; simp⟩
theorem wp_region_G {id : Nat} {a : Act} {w : World} (hm : P.follows .mixedOrders = true)
    (h : wpAnyG P ops Q ops.size (Array.replicate ops.size false) a w.drew) : (Code.region id ops true).wp P Q a w :=
  wp_region_any hm (wpAny_of_G _ _ _ _ h)
end

theorem mem_grow {F : Mem → Prop} {h : List HO} {e : Env} (hF : Mono F) : Stable (SatQ F h e) := by
  intro w w' hg S
  refine ⟨fun i ho hi => ?_, hF _ _ ?_ S.fact⟩
  · have hs := S.sat i ho hi
    have hag : agree (i + 1) e e := agree.refl _ _
    cases ho with
    | cells cs T =>
      simp only [HO.sat] at hs ⊢
      rw [hg _ (Array.getElem?_eq_some_iff.1 hs).1]
      exact hs
    | row T size n xs =>
      simp only [HO.sat] at hs ⊢
      obtain ⟨⟨h1, h2⟩, h3⟩ := hs
      refine ⟨⟨h1, ?_⟩, h3⟩
      rcases h2 with h2 | ⟨g, cap, cur, hv, hb, hh, r⟩
      · exact .inl h2
      · exact .inr ⟨g, cap, cur, hv, hb, by rw [hg g (Array.getElem?_eq_some_iff.1 hh).1]; exact hh, r⟩
    | obj o =>
      simp only [HO.sat] at hs ⊢
      rw [hg _ (Array.getElem?_eq_some_iff.1 hs.1).1]
      exact hs
    | gone => trivial
  · intro b o hb
    unfold mem at hb ⊢
    split at hb
    · cases hb
    · rename_i hno
      rw [if_neg hno, hg b ?_]
      · exact hb
      · rcases Nat.lt_or_ge b w.heap.size with hh | hh
        · exact hh
        · rw [Array.getElem?_eq_none hh] at hb; cases hb
end Go.Sx
