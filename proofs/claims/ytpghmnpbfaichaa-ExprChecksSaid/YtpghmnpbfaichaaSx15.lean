/- The run through a body: the whole. -/
import Derived.Test.YtpghmnpbfaichaaSx14
namespace Go.Sx
open Go.RowKit

section
variable {P : Program} {X : Ext P} {B : Code} {n : Nat} {F : Mem → Prop} {w0 : World} {fin : Exit → Act → World → Prop}

def Has (sd : List Side) (L : List Leaf) : Prop := (∃ l, l ∈ L) ∧ ∀ l ∈ L, ∀ s ∈ sd, s ∈ l.sd
theorem Has.single (sd : List Side) (k : List It) (st : St) (D : List Dec) : Has sd [⟨sd, k, st, D⟩] :=
  ⟨⟨_, List.mem_cons_self⟩, fun l hl s hs => by
    rw [List.mem_singleton] at hl
    subst hl
    exact hs⟩
theorem Has.left {sd sd2 : List Side} {L : List Leaf} (h : Has (sd ++ sd2) L) : Has sd L := ⟨h.1, fun l hl s hs => h.2 l hl s (List.mem_append_left _ hs)⟩

theorem branch_has {sd : List Side} {g : Nat → Option (List Leaf)} : ∀ (l : List Nat) {L : List Leaf}, branch g l = some L → (∀ i ∈ l, ∀ L', g i = some L' → Has sd L') →
    (∀ i ∈ l, ∃ L', g i = some L' ∧ ∀ x ∈ L', x ∈ L) ∧ ∀ x ∈ L, ∀ s ∈ sd, s ∈ x.sd
  | [], L, h, _ => by
    simp only [branch, Option.some.injEq] at h
    subst h
    exact ⟨fun i hi => (by cases hi), fun x hx => (by cases hx)⟩
  | i :: r, L, h, hg => by
    simp only [branch] at h
    split at h
    · rename_i a b ha hb
      simp only [Option.some.injEq] at h
      subst h
      obtain ⟨r1, r2⟩ := branch_has r hb (fun j hj => hg j (List.mem_cons_of_mem _ hj))
      refine ⟨fun j hj => ?_, fun x hx s hs => ?_⟩
      · rcases List.mem_cons.1 hj with rfl | hj
        · exact ⟨a, ha, fun x hx => List.mem_append_left _ hx⟩
        · obtain ⟨L', q1, q2⟩ := r1 j hj
          exact ⟨L', q1, fun x hx => List.mem_append_right _ (q2 x hx)⟩
      · rcases List.mem_append.1 hx with hx | hx
        · exact (hg i List.mem_cons_self a ha).2 x hx s hs
        · exact r2 x hx s hs
    · cases h

theorem xrun_has : ∀ (fuel : Nat) (D : List Dec) (k : List It) (st : St) (sd : List Side) {L : List Leaf}, xrun P X B n fuel D k st sd = some L → Has sd L
  | 0, D, k, st, sd, L, h => by
    simp only [xrun, Option.some.injEq] at h
    subst h
    exact Has.single ..
  | fuel + 1, D, k, st, sd, L, h => by
    have ih := fun D k st sd (L : List Leaf) (h : xrun P X B n fuel D k st sd = some L) => xrun_has fuel D k st sd h
    unfold xrun at h
    split at h
    · simp only [Option.some.injEq] at h; subst h; exact Has.single ..
    · simp only [Option.some.injEq] at h; subst h; exact Has.single ..
    · simp only [Option.some.injEq] at h; subst h; exact Has.single ..
    · simp only [Option.some.injEq] at h; subst h; exact Has.single ..
    · exact ih _ _ _ _ _ h
    · split at h
      · exact ih _ _ _ _ _ h
      · exact ih _ _ _ _ _ h
      · exact ih _ _ _ _ _ h
      · exact ih _ _ _ _ _ h
      · split at h
        · exact ih _ _ _ _ _ h
        · exact ih _ _ _ _ _ h
        · split at h
          · exact (ih _ _ _ _ _ h).left
          · exact (ih _ _ _ _ _ h).left
          · simp only [Option.some.injEq] at h; subst h; exact Has.single ..
        · cases h
      · split at h
        · exact ih _ _ _ _ _ h
        · cases h
      · simp only [Option.some.injEq] at h; subst h; exact Has.single ..
      · exact ih _ _ _ _ _ h
      · simp only [Option.some.injEq] at h; subst h; exact Has.single ..
    · split at h
      · split at h
        · exact ih _ _ _ _ _ h
        · split at h
          · exact (ih _ _ _ _ _ h).left
          · simp only [Option.some.injEq] at h; subst h; exact Has.single ..
      · cases h
    · split at h
      · split at h
        · exact ih _ _ _ _ _ h
        · rename_i r rs hr
          split at h
          · cases h
          · rename_i f
            cases hns : Region.noSelect _ with
            | false => rw [hns] at h; cases h
            | true =>
              rw [hns] at h
              simp only [cond_true] at h
              split at h
              · exact (ih _ _ _ _ _ h).left
              · cases hwt : waits _ st D (r :: _) with
                | true =>
                  rw [hwt] at h
                  simp only [cond_true, Option.some.injEq] at h
                  subst h
                  exact Has.single ..
                | false =>
                rw [hwt] at h
                simp only [cond_false] at h
                obtain ⟨b1, b2⟩ := branch_has (sd := sd) _ h (fun i _ L' hL' => by
                  split at hL'
                  · cases hL'
                  · split at hL'
                    · cases hkk : (keepOp _ || !ndOf _ i) with
                      | false => rw [hkk] at hL'; cases hL'
                      | true =>
                        rw [hkk] at hL'
                        simp only [cond_true] at hL'
                        exact (ih _ _ _ _ _ hL').left
                    · simp only [Option.some.injEq] at hL'
                      subst hL'
                      exact Has.single ..)
                obtain ⟨L', q1, q2⟩ := b1 r List.mem_cons_self
                have hh : ∃ x, x ∈ L' := by
                  split at q1
                  · cases q1
                  · split at q1
                    · cases hkk : (keepOp _ || !ndOf _ r) with
                      | false => rw [hkk] at q1; cases q1
                      | true =>
                        rw [hkk] at q1
                        simp only [cond_true] at q1
                        exact (ih _ _ _ _ _ q1).1
                    · simp only [Option.some.injEq] at q1
                      subst q1
                      exact ⟨_, List.mem_cons_self⟩
                obtain ⟨x, hx⟩ := hh
                exact ⟨⟨x, q2 x hx⟩, b2⟩
      · cases h

/-- What the leaves are to pay. -/
def Paid (P : Program) (B : Code) (n : Nat) (F : Mem → Prop) (w0 : World) (fin : Exit → Act → World → Prop) (L : List Leaf) : Prop :=
  ∀ l ∈ L, hold F l.sd ∧ Ok P B n F w0 fin l.k l.st
theorem Paid.single {sd : List Side} {k : List It} {st : St} {D : List Dec} (h : Paid P B n F w0 fin [⟨sd, k, st, D⟩]) : Ok P B n F w0 fin k st :=
  (h _ List.mem_cons_self).2
theorem Paid.sides {sd sd2 : List Side} {L : List Leaf} (hp : Paid P B n F w0 fin L) (h : Has (sd ++ sd2) L) : hold F sd2 := by
  obtain ⟨l, hl⟩ := h.1
  exact fun s hs => (hp l hl).1 s (h.2 l hl s (List.mem_append_right _ hs))

variable (hm : P.follows .mixedOrders = true) (hF : Mono F) (hfin : ∀ c (a : Act) (d : Option Tmp) (v : Value) (w : World), fin (.panic c) (a.put d v) w → fin (.panic c) a w)
include hm hF hfin

theorem xrun_sound : ∀ (fuel : Nat) (D : List Dec) (k : List It) (st : St) (sd : List Side) {L : List Leaf}, xrun P X B n fuel D k st sd = some L →
    Paid P B n F w0 fin L → Ok P B n F w0 fin k st
  | 0, D, k, st, sd, L, h, hp => by
    simp only [xrun, Option.some.injEq] at h
    subst h
    exact hp.single
  | fuel + 1, D, k, st, sd, L, h, hp => by
    have ih := fun D k st sd (L : List Leaf) (h : xrun P X B n fuel D k st sd = some L) (hp : Paid P B n F w0 fin L) => xrun_sound fuel D k st sd h hp
    have hL := xrun_has fuel (P := P) (X := X) (B := B) (n := n)
    unfold xrun at h
    split at h
    · simp only [Option.some.injEq] at h; subst h; exact hp.single
    · simp only [Option.some.injEq] at h; subst h; exact hp.single
    · simp only [Option.some.injEq] at h; subst h; exact hp.single
    · simp only [Option.some.injEq] at h; subst h; exact hp.single
    · intro e a w S T
      have := ih _ _ _ _ _ h hp e a w S T
      simp only [post]
      exact this
    · rename_i p k'
      split at h
      · rename_i hs
        intro e a w S T
        simp only [post, hs]
        exact wp_skip (ih _ _ _ _ _ h hp e a w S T)
      · rename_i hs
        intro e a w S T
        simp only [post, hs]
        exact wp_label (ih _ _ _ _ _ h hp e a w S T)
      · rename_i c1 c2 hs
        intro e a w S T
        have := ih _ _ _ _ _ h hp e a w S T
        have h2 : sub B (1 :: p) = c2 := by simp only [sub, hs, child]
        simp only [post, sub, hs, child] at this ⊢
        refine wp_seq (Code.wp_mono (fun e' a' w' hq => ?_) this)
        cases e' with
        | normal => simp only [post, h2] at hq; exact hq
        | _ => exact hq
      · rename_i id c1 hs
        intro e a w S T
        have := ih _ _ _ _ _ h hp e a w S T
        simp only [post, sub, hs, child] at this ⊢
        refine wp_block (Code.wp_mono (fun e' a' w' hq => ?_) this)
        cases e' <;> exact hq
      · rename_i c c1 c2 hs
        split at h
        · rename_i hc
          intro e a w S T
          have := ih _ _ _ _ _ h hp e a w S T
          simp only [post, sub, hs, child] at this ⊢
          exact wp_cond_true (by rw [(evO_sound T hc).1]; rfl) this
        · rename_i hc
          intro e a w S T
          have := ih _ _ _ _ _ h hp e a w S T
          simp only [post, sub, hs, child] at this ⊢
          exact wp_cond_false (by rw [(evO_sound T hc).1]; rfl) this
        · rename_i b hc
          split at h
          · intro e a w S T
            have hb : b = true := hp.sides (hL _ _ _ _ h) _ List.mem_cons_self _ S.fact
            have := ih _ _ _ _ _ h hp e a w S T
            simp only [post, sub, hs, child] at this ⊢
            exact wp_cond_true (by rw [(evO_sound T hc).1, hb]; rfl) this
          · intro e a w S T
            have hb : b = false := hp.sides (hL _ _ _ _ h) _ List.mem_cons_self _ S.fact
            have := ih _ _ _ _ _ h hp e a w S T
            simp only [post, sub, hs, child] at this ⊢
            exact wp_cond_false (by rw [(evO_sound T hc).1, hb]; rfl) this
          · simp only [Option.some.injEq] at h; subst h; exact hp.single
        · cases h
      · rename_i id hs
        split at h
        · rename_i k2 hk
          intro e a w S T
          have := ih _ _ _ _ _ h hp e a w S T
          simp only [post, hs]
          exact wp_exit (post_exit id _ hk a w this)
        · cases h
      · rename_i hs
        simp only [Option.some.injEq] at h
        subst h
        intro e a w S T
        have := hp.single e a w S T
        simp only [post, hs] at this ⊢
        exact wp_ret this
      · rename_i id ops dr hs
        cases dr with
        | false =>
          intro e a w S T
          have := ih _ _ _ _ _ h hp e a w S T
          simp only [cond_false, post, hs, List.drop_zero] at this ⊢
          exact wp_region_list this
        | true =>
          intro e a w S T
          have := ih _ _ _ _ _ h hp e a w.drew S.drew T
          simp only [cond_true, post, hs] at this ⊢
          exact wp_region_G hm this
      · simp only [Option.some.injEq] at h; subst h; exact hp.single
    · rename_i p i k'
      split at h
      · rename_i id ops dr hs
        split at h
        · rename_i ho
          intro e a w S T
          have := ih _ _ _ _ _ h hp e a w S T
          simp only [post, hs]
          have hd : ops.toList.drop i = [] := by
            rw [List.drop_eq_nil_iff]
            simpa using ho
          rw [hd]
          exact wpList_nil this
        · rename_i o ho
          split at h
          · rename_i st2 sd2 D2 hx
            intro e a w S T
            obtain ⟨e', w', v, r1, r2, _, r4⟩ := xop_sound hF S T hx (hp.sides (hL _ _ _ _ h))
            have := ih _ _ _ _ _ h hp e' _ w' r1 r2
            simp only [post, hs] at this ⊢
            have hlt : i < ops.toList.length := by
              have := (Array.getElem?_eq_some_iff.1 ho).1
              simpa using this
            have hd : ops.toList.drop i = o :: ops.toList.drop (i + 1) := by
              rw [List.drop_eq_getElem_cons hlt]
              congr 1
              have h2 := (Array.getElem?_eq_some_iff.1 ho).2
              simpa using h2
            rw [hd]
            exact wpList_step fun K hK => r4 K _ (hK _ _ this)
          · simp only [Option.some.injEq] at h; subst h; exact hp.single
      · cases h
    · rename_i p f l k'
      split at h
      · rename_i id ops dr hs
        split at h
        · rename_i hr
          intro e a w S T
          have := ih _ _ _ _ _ h hp e a w S T
          simp only [post, hs]
          exact wpAnyG_done hr this f
        · rename_i r rs hr
          split at h
          · cases h
          · rename_i f
            cases hns : Region.noSelect ops with
            | false => rw [hns] at h; cases h
            | true =>
              rw [hns] at h
              simp only [cond_true] at h
              split at h
              · rename_i i st2 sd2 D2 hx
                intro e a w S T
                obtain ⟨t1, t2, o, v, t3, t3b, t4, t5, t6⟩ := xtake_sound S T _ hx (hp.sides (hL _ _ _ _ h))
                have := ih _ _ _ _ _ h hp e _ w (by rw [t4]; exact S) (by rw [t4]; exact t5)
                simp only [post, hs] at this ⊢
                refine wpAnyG_take (mem_grow hF) t3 t3b hns t2 (by rw [hr]; simpa using t1) (fun c a' w' hq => ?_) t6 S.q this
                rw [post_panic] at hq ⊢
                exact hfin c a' _ _ w' hq
              · cases hwt : waits ops st D (r :: rs) with
                | true =>
                  rw [hwt] at h
                  simp only [cond_true, Option.some.injEq] at h
                  subst h
                  exact hp.single
                | false =>
                rw [hwt] at h
                simp only [cond_false] at h
                intro e a w S T
                simp only [post, hs]
                refine ⟨fun h0 => (by rw [hr] at h0; cases h0), fun i hi => ?_⟩
                rw [hr] at hi
                obtain ⟨b1, b2⟩ := branch_has (sd := sd) _ h (fun i _ L' hL' => by
                  split at hL'
                  · cases hL'
                  · split at hL'
                    · cases hkk : (keepOp _ || !ndOf _ i) with
                      | false => rw [hkk] at hL'; cases hL'
                      | true =>
                        rw [hkk] at hL'
                        simp only [cond_true] at hL'
                        exact (hL _ _ _ _ hL').left
                    · simp only [Option.some.injEq] at hL'
                      subst hL'
                      exact Has.single ..)
                obtain ⟨L', q1, q2⟩ := b1 i hi
                have hp' : Paid P B n F w0 fin L' := fun x hx => hp x (q2 x hx)
                split at q1
                · cases q1
                · rename_i o ho
                  split at q1
                  · rename_i st2 sd2 D2 hx
                    cases hkk : (keepOp o || !ndOf ops i) with
                    | false => rw [hkk] at q1; cases q1
                    | true =>
                      rw [hkk] at q1
                      simp only [cond_true] at q1
                      obtain ⟨e', w', v, r1, r2, r3, r4⟩ := xop_sound hF S T hx (hp'.sides (hL _ _ _ _ q1))
                      have := ih _ _ _ _ _ q1 hp' e' _ w' r1 r2
                      simp only [post, hs] at this
                      unfold wpOp
                      simp only [ho]
                      have h4 := r4 (fun a' w' => (ndOf ops i = true → Grow w w') ∧ wpAnyG P ops (post P B fin k') f (l.setIfInBounds i true) a' w') (post P B fin k') ⟨fun hn => r3 (by
                        rw [hn] at hkk
                        simpa using hkk), this⟩
                      split
                      · rename_i hw
                        rw [if_pos hw] at h4
                        exact .inl h4
                      · rename_i hw
                        rw [if_neg hw] at h4
                        exact h4
                  · simp only [Option.some.injEq] at q1
                    subst q1
                    have := hp'.single e a w S T
                    simp only [post, hs] at this
                    exact this
      · cases h
end
end Go.Sx
