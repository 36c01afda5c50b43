/- The run through a body: its truth. -/
import Derived.Test.YtpghmnpbfaichaaSx13
namespace Go.Sx
open Go.RowKit

def Ok (P : Program) (B : Code) (n : Nat) (F : Mem → Prop) (w0 : World) (fin : Exit → Act → World → Prop) (k : List It) (st : St) : Prop :=
  ∀ e a w, SatH F w0 st.heap e w → TSat n st.heap.length st.tm e a → post P B fin k .normal a w

section
variable {P : Program} {X : Ext P} {B : Code} {n : Nat} {F : Mem → Prop} {w0 : World} {fin : Exit → Act → World → Prop}

theorem post_panic (k : List It) (c : List PanicEntry) (a : Act) (w : World) : post P B fin k (.panic c) a w = fin (.panic c) a w := by
  induction k with
  | nil => rfl
  | cons x k ih => cases x <;> exact ih
theorem post_ret (k : List It) (a : Act) (w : World) : post P B fin k .ret a w = fin .ret a w := by
  induction k with
  | nil => rfl
  | cons x k ih => cases x <;> exact ih
theorem post_exit (id : Nat) : ∀ (k : List It) {k2 : List It}, exitK id k = some k2 → ∀ a w, post P B fin k2 .normal a w → post P B fin k (.exit id) a w
  | [], k2, h, a, w, hp => by cases h
  | .blk id' :: k, k2, h, a, w, hp => by
    simp only [exitK] at h
    simp only [post]
    cases hb : Nat.beq id id' with
    | true =>
      rw [hb] at h
      simp only [cond_true, Option.some.injEq] at h
      subst h
      rw [if_pos (Nat.eq_of_beq_eq_true hb)]
      exact hp
    | false =>
      rw [hb] at h
      simp only [cond_false] at h
      rw [if_neg (fun hh => by subst hh; simp at hb)]
      exact post_exit id k h a w hp
  | .at p :: k, k2, h, a, w, hp => post_exit id k h a w hp
  | .rnd p m :: k, k2, h, a, w, hp => post_exit id k h a w hp
  | .ret :: k, k2, h, a, w, hp => post_exit id k h a w hp
  | .ops p i :: k, k2, h, a, w, hp => post_exit id k h a w hp
  | .any p f l :: k, k2, h, a, w, hp => post_exit id k h a w hp
  | .one p f l i :: k, k2, h, a, w, hp => post_exit id k h a w hp

theorem xguard_sound {hl : Nat} {ops : Array Oper} {st st1 : St} {e : Env} {a : Act} {D D1 : List Dec} {o : Oper} {wd : Bool} {sd1 : List Side} {M : Mem}
    (T : TSat n hl st.tm e a) (h : xguard ops st D o = some (wd, st1, sd1, D1)) (hsd : ∀ x ∈ sd1, x M) :
    Region.wanted o (yielded ops a.tmps) = wd ∧ st1.heap = st.heap ∧ TSat n hl st1.tm e a := by
  unfold xguard at h
  split at h
  · rename_i hg
    simp only [Option.some.injEq, Prod.mk.injEq] at h
    obtain ⟨rfl, rfl, rfl, rfl⟩ := h
    exact ⟨by simp [Region.wanted, hg], rfl, T⟩
  · rename_i j want hg
    split at h
    · cases h
    · rename_i t ht
      have hy : ∀ s, lk st.tm t = some s → yielded ops a.tmps j = match den e s with | .bool b => some b | _ => none := by
        intro s hs
        unfold yielded
        rw [ht]
        simp only [Option.bind_some, T.get t s hs]
        cases den e s <;> rfl
      have mark : ∀ (b : Bool), lk st.tm t = some (.v (.bool b)) → TSat n hl ((t, .bl b) :: del st.tm t) e a := by
        intro b hb
        refine T.sub' ?_
        intro u s hu
        simp only [lk] at hu
        cases hbq : Nat.beq t u with
        | true =>
          have : t = u := Nat.eq_of_beq_eq_true hbq
          subst this
          simp only [hbq, cond_true, Option.some.injEq] at hu
          subst hu
          exact ⟨_, hb, rfl, trivial⟩
        | false =>
          have hne : t ≠ u := fun hh => by subst hh; simp at hbq
          simp only [hbq, cond_false] at hu
          rw [lk_del_ne _ _ _ hne] at hu
          exact ⟨s, hu, rfl, T.wsc u s hu⟩
      split at h
      · rename_i b hs
        simp only [Option.some.injEq, Prod.mk.injEq] at h
        obtain ⟨rfl, rfl, rfl, rfl⟩ := h
        refine ⟨?_, rfl, T⟩
        simp only [Region.wanted, hg, hy _ hs, den]
        cases b <;> cases want <;> rfl
      · rename_i b hs
        split at h
        · simp only [Option.some.injEq, Prod.mk.injEq] at h
          obtain ⟨rfl, rfl, rfl, rfl⟩ := h
          have hb : b = true := hsd _ List.mem_cons_self
          subst hb
          refine ⟨?_, rfl, mark true hs⟩
          simp only [Region.wanted, hg, hy _ hs, den]
          cases want <;> rfl
        · simp only [Option.some.injEq, Prod.mk.injEq] at h
          obtain ⟨rfl, rfl, rfl, rfl⟩ := h
          have hb : b = false := hsd _ List.mem_cons_self
          subst hb
          refine ⟨?_, rfl, mark false hs⟩
          simp only [Region.wanted, hg, hy _ hs, den]
          cases want <;> rfl
        · cases h
      · rename_i vs hs
        simp only [Option.some.injEq, Prod.mk.injEq] at h
        obtain ⟨rfl, rfl, rfl, rfl⟩ := h
        refine ⟨?_, rfl, T⟩
        simp only [Region.wanted, hg, hy _ hs, den]
        rfl
      · cases h

theorem put1_sound {hl hl' : Nat} {st st2 : St} {e e' : Env} {a : Act} {d : Option Nat} {s : SV} {v : Value} (T : TSat n hl st.tm e a) (hag : agree hl e e') (hle : hl ≤ hl')
    (h : put1 n st d s = some st2) (hv : den e' s = v) (hw : ws hl' s) : TSat n hl' st2.tm e' (a.put d v) ∧ st2.heap = st.heap := by
  unfold put1 at h
  cases d with
  | none =>
    simp only [Option.some.injEq] at h
    subst h
    exact ⟨T.move hag hle, rfl⟩
  | some d =>
    simp only at h
    cases hb : Nat.blt d n with
    | false => rw [hb] at h; cases h
    | true =>
      rw [hb] at h
      simp only [cond_true, Option.some.injEq] at h
      subst h
      have hd : d < n := by
        have := Nat.le_of_ble_eq_true hb
        omega
      exact ⟨T.put hag hle d hd s v hv hw, rfl⟩

theorem xop_sound (hF : Mono F) {ops : Array Oper} {st st2 : St} {e : Env} {a : Act} {w : World} {D D2 : List Dec} {o : Oper} {sd2 : List Side}
    (S : SatH F w0 st.heap e w) (T : TSat n st.heap.length st.tm e a) (h : xop P X n ops st D o = some (st2, sd2, D2)) (hsd : hold F sd2) :
    ∃ e' w' v, SatH F w0 st2.heap e' w' ∧ TSat n st2.heap.length st2.tm e' (a.put o.dst v) ∧ (keepOp o = true → Grow w w') ∧
      ∀ (K : Act → World → Prop) (Q : Exit → Act → World → Prop), K (a.put o.dst v) w' →
        if Region.wanted o (yielded ops a.tmps) then o.wp P a w K Q else K (a.put o.dst undef) w := by
  unfold xop at h
  split at h
  · cases h
  · rename_i st1 sd1 D1 hg
    split at h
    · rename_i st3 hp
      simp only [Option.some.injEq, Prod.mk.injEq] at h
      obtain ⟨rfl, rfl, rfl⟩ := h
      obtain ⟨g1, g2, g3⟩ := xguard_sound T hg (fun x hx => hsd x hx _ S.fact)
      obtain ⟨p1, p2⟩ := put1_sound (v := undef) g3 (agree.refl _ e) (Nat.le_refl _) hp rfl trivial
      refine ⟨e, w, undef, by rw [p2, g2]; exact S, by rw [p2, g2]; exact p1, fun _ _ _ => rfl, fun K Q hK => ?_⟩
      rw [g1]
      exact hK
    · cases h
  · rename_i st1 sd1 D1 hg
    split at h
    · rename_i s sd3 D3 hq
      split at h
      · rename_i st3 hp
        simp only [Option.some.injEq, Prod.mk.injEq] at h
        obtain ⟨rfl, rfl, rfl⟩ := h
        obtain ⟨g1, g2, g3⟩ := xguard_sound T hg (fun x hx => hsd x (List.mem_append_left _ hx) _ S.fact)
        have S1 : SatH F w0 st1.heap e w := by rw [g2]; exact S
        have T1 : TSat n st1.heap.length st1.tm e a := by rw [g2]; exact g3
        obtain ⟨q1, q2⟩ := xqa_sound T1 S1.q S1.ws hq (fun x hx => hsd x (List.mem_append_right _ hx)) w (fun _ => S1.q)
        obtain ⟨p1, p2⟩ := put1_sound T1 (agree.refl _ e) (Nat.le_refl _) hp rfl q2
        refine ⟨e, w, den e s, by rw [p2]; exact S1, by rw [p2]; exact p1, fun _ _ _ => rfl, fun K Q hK => ?_⟩
        rw [g1]
        simp only [if_true, Oper.wp, q1, Oper.upon]
        exact hK
      · cases h
    · split at h
      · rename_i s hh sd3 D3 hl
        split at h
        · rename_i st3 hp
          simp only [Option.some.injEq, Prod.mk.injEq] at h
          obtain ⟨rfl, rfl, rfl⟩ := h
          obtain ⟨g1, g2, g3⟩ := xguard_sound T hg (fun x hx => hsd x (List.mem_append_left _ hx) _ S.fact)
          have S1 : SatH F w0 st1.heap e w := by rw [g2]; exact S
          have T1 : TSat n st1.heap.length st1.tm e a := by rw [g2]; exact g3
          obtain ⟨e', w', l1, l2, l3, l4, l5⟩ := xl_sound hF T1 S1 hl (fun x hx => hsd x (List.mem_append_right _ hx))
          obtain ⟨l5, l6⟩ := l5
          obtain ⟨p1, p2⟩ := put1_sound (st := ⟨st1.tm, hh⟩) T1 l1 l2 hp rfl l6
          refine ⟨e', w', den e' s, by rw [p2]; exact l3, by rw [p2]; exact p1, l4, fun K Q hK => ?_⟩
          rw [g1]
          simp only [if_true, Oper.wp, l5, Oper.upon]
          exact hK
        · cases h
      · rename_i hh sd3 D3 hl
        split at h
        · rename_i st3 hp
          simp only [Option.some.injEq, Prod.mk.injEq] at h
          obtain ⟨rfl, rfl, rfl⟩ := h
          obtain ⟨g1, g2, g3⟩ := xguard_sound T hg (fun x hx => hsd x (List.mem_append_left _ hx) _ S.fact)
          have S1 : SatH F w0 st1.heap e w := by rw [g2]; exact S
          have T1 : TSat n st1.heap.length st1.tm e a := by rw [g2]; exact g3
          obtain ⟨e', w', l1, l2, l3, l4, l5⟩ := xl_sound hF T1 S1 hl (fun x hx => hsd x (List.mem_append_right _ hx))
          obtain ⟨p1, p2⟩ := put1_sound (st := ⟨st1.tm, hh⟩) (v := undef) T1 l1 l2 hp rfl trivial
          refine ⟨e', w', undef, by rw [p2]; exact l3, by rw [p2]; exact p1, l4, fun K Q hK => ?_⟩
          rw [g1]
          simp only [if_true, Oper.wp, l5, Oper.upon]
          exact hK
        · cases h
      · cases h

theorem xtake_sound {ops : Array Oper} {listed : Array Bool} {st st2 : St} {e : Env} {a : Act} {w : World} {D D2 : List Dec} {sd2 : List Side} {i : Nat}
    (S : SatH F w0 st.heap e w) (T : TSat n st.heap.length st.tm e a) : ∀ (l : List Nat), xtake P X n ops listed st D l = some (i, st2, sd2, D2) → hold F sd2 →
    i ∈ l ∧ Region.free .any ops listed i = true ∧ ∃ o v, ops[i]? = some o ∧ (isLoad o = true → late ops = false) ∧ st2.heap = st.heap ∧ TSat n st.heap.length st2.tm e (a.put o.dst v) ∧
      YieldsIf P ops (fun w' => isLoad o = true → SatQ F st.heap e w') o v a
  | [], h, _ => by cases h
  | j :: r, h, hsd => by
    have rec' : xtake P X n ops listed st D r = some (i, st2, sd2, D2) → i ∈ j :: r ∧ Region.free .any ops listed i = true ∧ ∃ o v, ops[i]? = some o ∧ (isLoad o = true → late ops = false) ∧ st2.heap = st.heap ∧ TSat n st.heap.length st2.tm e (a.put o.dst v) ∧
      YieldsIf P ops (fun w' => isLoad o = true → SatQ F st.heap e w') o v a := fun h2 => by
      obtain ⟨r1, r2⟩ := xtake_sound S T r h2 hsd
      exact ⟨List.mem_cons_of_mem _ r1, r2⟩
    simp only [xtake] at h
    split at h
    · exact rec' h
    · rename_i o ho
      split at h
      · exact rec' h
      · rename_i st1 sd1 D1 hg
        split at h
        · rename_i st3 hp
          cases hf : early ops o && Region.free .any ops listed j with
          | false => rw [hf] at h; exact rec' h
          | true =>
            rw [hf] at h
            simp only [cond_true, Option.some.injEq, Prod.mk.injEq] at h
            obtain ⟨rfl, rfl, rfl, rfl⟩ := h
            obtain ⟨g1, g2, g3⟩ := xguard_sound T hg (fun x hx => hsd x hx _ S.fact)
            obtain ⟨p1, p2⟩ := put1_sound (v := undef) g3 (agree.refl _ e) (Nat.le_refl _) hp rfl trivial
            exact ⟨List.mem_cons_self, (Bool.and_eq_true _ _ ▸ hf).2, o, undef, ho, early_spec (Bool.and_eq_true _ _ ▸ hf).1, p2.trans g2, p1, .inr ⟨g1, rfl⟩⟩
        · cases h
      · rename_i st1 sd1 D1 hg
        split at h
        · rename_i s sd3 D3 hq
          split at h
          · rename_i st3 hp
            cases hf : early ops o && Region.free .any ops listed j with
            | false => rw [hf] at h; exact rec' h
            | true =>
              rw [hf] at h
              simp only [cond_true, Option.some.injEq, Prod.mk.injEq] at h
              obtain ⟨rfl, rfl, rfl, rfl⟩ := h
              obtain ⟨g1, g2, g3⟩ := xguard_sound T hg (fun x hx => hsd x (List.mem_append_left _ hx) _ S.fact)
              have S1 : SatH F w0 st1.heap e w := by rw [g2]; exact S
              have T1 : TSat n st1.heap.length st1.tm e a := by rw [g2]; exact g3
              have hgood := xqa_sound T1 S1.q S1.ws hq (fun x hx => hsd x (List.mem_append_right _ hx))
              obtain ⟨p1, p2⟩ := put1_sound T1 (agree.refl _ e) (Nat.le_refl _) hp rfl (hgood w (fun _ => S1.q)).2
              refine ⟨List.mem_cons_self, (Bool.and_eq_true _ _ ▸ hf).2, o, den e s, ho, early_spec (Bool.and_eq_true _ _ ▸ hf).1, p2.trans g2, by rw [← g2]; exact p1, .inl ⟨g1, fun w' hw' => (hgood w' (fun hl => ?_)).1⟩⟩
              rw [g2]
              exact hw' hl
          · cases h
        · exact rec' h
end
end Go.Sx
