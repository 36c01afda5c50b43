/- Stores, appends, makes, iterators over strings. -/
import Derived.Test.YtpghmnpbfaichaaSx9
import Derived.Laws.RangeString
namespace Go.Sx
open Go.RowKit

section
variable {P : Program} {F : Mem → Prop} {w0 : World} {tm : List (Nat × SV)} {n : Nat} {h h' : List HO} {e : Env} {a : Act} {w : World} {D D' : List Dec} {r : Option SV} {sd : List Side}

theorem set_get {h : List HO} {i j : Nat} {x ho : HO} (hij : j ≠ i) (hj : (h.set i x)[j]? = some ho) : h[j]? = some ho := by
  rw [List.getElem?_set_ne (Ne.symm hij)] at hj; exact hj

/-- Object i has turned, in its own block. -/
theorem SatH.turn (hF : Mono F) (S : SatH F w0 h e w) {i : Nat} {old ho : HO} (hi : h[i]? = some old) {w' : World} (b : Nat) (hob : old.own e i = some b) (hob' : ho.own e i = some b)
    (hs : ho.sat e i w') (hw : ho.ws h.length) (hfr : ∀ k, k < w.heap.size → k ≠ b → w'.heap[k]? = w.heap[k]?) (hos : w'.os = w.os) (ht : w'.tape = w.tape) (hout : w'.output = w.output) :
    SatH F w0 (h.set i ho) e w' := by
  have hlt : i < h.length := (List.getElem?_eq_some_iff.1 hi).1
  refine S.next hF i ho (by simp) (by simp [hlt]) (agree.refl _ _) ?_ ?_ (some b) ?_ ?_ hs (HO.ws_mono (by simp) hw) ?_ ?_ hos ht hout
  · intro j x hj hx
    exact .inl (set_get hj hx)
  · intro j x hj hx
    refine .inl ?_
    rw [List.getElem?_set_ne (Ne.symm hj)]
    exact hx
  · intro b' hb'
    simp only [Option.some.injEq] at hb'
    subst hb'
    exact ⟨i, old, hi, hob, .inl rfl⟩
  · intro x b' hx hb'
    rw [hi] at hx
    cases hx
    rw [hob] at hb'
    exact ⟨hb', hob'.trans hb'⟩
  · intro b' hb'
    rw [hob'] at hb'
    exact .inr hb'
  · intro k hk hne
    exact hfr k hk (fun hh => hne (by rw [hh]))

theorem xstore_sound (hF : Mono F) (T : TSat n h.length tm e a) (S : SatH F w0 h e w) {o : Oper} {T0 : TypeId} {x y : Operand} (ho : o.op = .store T0 x y)
    (hq : xstore P tm h D T0 x y = some (r, h', sd, D')) (hsd : ∀ x ∈ sd, x (mem w e h)) : LGood P F w0 h h' e a w o r := by
  unfold xstore at hq
  split at hq
  · cases hq
  · rename_i s hy
    split at hq
    · rename_i cs k hcs hk
      cases hb : Nat.beq cs.length k && cs.all (oneB h) with
      | false => rw [hb] at hq; cases hq
      | true =>
        rw [hb] at hq
        simp only [cond_true] at hq
        rw [Bool.and_eq_true] at hb
        have hlen := Nat.eq_of_beq_eq_true hb.1
        obtain ⟨c1, c2⟩ := cellsOfSV_sound S.q hcs
        have hws := c2 _ (evO_sound T hy).2
        have hone := oneB_all S.q hb.2
        have hrun : ∀ (g off : Nat) (cur : Array Value) (t : TypeId), w.heap[g]? = some (.cells cur t (0, 0)) → off + cs.length ≤ cur.size →
            (Instr.storeAt T0 (.pointer (some ⟨g, off, none⟩)) (den e s)).run P w = .ok () (w.setRow g (cur.toList.take off ++ denL e cs ++ cur.toList.drop (off + (denL e cs).length)).toArray) := by
          intro g off cur t hg hle
          have hst := run_storeCells_at P g off t (denL e cs) 0 cur w hg (by simpa [denL_length] using hle) hone
          simp only [Nat.add_zero] at hst
          simp [Instr.storeAt, Instr.sureAddr, storeVar, c1, denL_length, hlen, tsize_run hk w, hst]
        split at hq
        · rename_i i off hx
          split at hq
          · rename_i old T1 hi
            simp only [Option.some.injEq, Prod.mk.injEq] at hq
            obtain ⟨rfl, rfl, rfl, rfl⟩ := hq
            have hle : off + cs.length ≤ old.length := hsd _ List.mem_cons_self
            have hg := S.sat i _ hi
            simp only [HO.sat] at hg
            have hr := hrun (e.blk i) off (denL e old).toArray T1 hg (by simpa [denL_length] using hle)
            refine ⟨e, _, agree.refl _ _, by simp, S.turn hF hi (e.blk i) rfl rfl (w' := w.setRow (e.blk i) (denL e (putL old off cs)).toArray) ?_ (wsL_putL (S.ws i _ hi) hws) (fun k _ hne => setRow_other w _ k _ hne) rfl rfl rfl, (fun hk => by rw [keepOp, ho] at hk; cases hk), ?_⟩
            · simp only [HO.sat]
              exact setRow_heap w _ _ _ T1 (0, 0) hg
            · simp only [execOp, ho, (evO_sound T hx).1, (evO_sound T hy).1]
              rw [Sem.run_bind]
              simp only [den]
              rw [hr]
              simp only [denL_putL]
              rfl
          · cases hq
        · rename_i i off hx
          split at hq
          · rename_i T1 sz nn old hi
            simp only [Option.some.injEq, Prod.mk.injEq] at hq
            obtain ⟨rfl, rfl, rfl, rfl⟩ := hq
            have hside : 0 < old.length ∧ off + cs.length ≤ old.length := hsd _ List.mem_cons_self
            obtain ⟨hpos, hle⟩ := hside
            obtain ⟨⟨h1, h2⟩, h3⟩ := S.sat i _ hi
            rcases h2 with ⟨_, hn⟩ | ⟨g, cap, cur, hv, hbg, hg, hnc, hcm, hcs', ht⟩
            · subst hn
              rw [denL_length] at h1
              omega
            · have hsz : nn * sz ≤ cur.size := by rw [hcs']; exact Nat.mul_le_mul_right _ hnc
              have hold : old.length = nn * sz := by rw [← h1, denL_length]
              have hr := hrun g off cur T1 hg (by omega)
              have hown : (HO.row T1 sz nn old).own e i = some g := by simp [HO.own, hv, Value.ownBlock]
              refine ⟨e, _, agree.refl _ _, by simp, S.turn hF hi g hown (by simpa [HO.own] using hown) (w' := w.setRow g (cur.toList.take off ++ denL e cs ++ cur.toList.drop (off + (denL e cs).length)).toArray) ?_ (wsL_putL (S.ws i _ hi) hws) (fun k _ hne => setRow_other w _ k _ hne) rfl rfl rfl, (fun hk => by rw [keepOp, ho] at hk; cases hk), ?_⟩
              · refine ⟨⟨by rw [denL_length, putL_length hle, ← denL_length e, h1], .inr ⟨g, cap, _, hv, hbg, setRow_heap w g cur _ T1 (0, 0) hg, hnc, hcm, ?_, ?_⟩⟩, ?_⟩
                · simp [denL_length]
                  omega
                · rw [denL_putL, ← ht]
                  simp only []
                  rw [denL_length]
                  rw [List.take_append, List.take_append]
                  simp only [List.length_append, List.length_take, Array.length_toList, denL_length, List.take_take, List.drop_take]
                  have e1 : min off cur.size = off := by omega
                  have e2 : min (nn * sz) off = off := by omega
                  have e3 : min off (nn * sz) = off := by omega
                  rw [e1, e2, e3]
                  congr 1
                  congr 1
                  rw [List.take_of_length_le (by rw [denL_length]; omega)]
                · intro u hu
                  rw [denL_putL, List.mem_append, List.mem_append] at hu
                  rcases hu with (hu | hu) | hu
                  · exact h3 u (List.mem_of_mem_take hu)
                  · exact hone u hu
                  · exact h3 u (List.mem_of_mem_drop hu)
              · simp only [execOp, ho, (evO_sound T hx).1, (evO_sound T hy).1]
                rw [Sem.run_bind]
                simp only [den, hv]
                rw [hr]
                rfl
          · cases hq
        · cases hq
    · cases hq

/-! ### append -/
/-- What is appended: how many, the cells. -/
def xsrc (P : Program) (tm : List (Nat × SV)) (h : List HO) (D : List Dec) (size : Nat) (T : TypeId) (x : Operand) : Option (Nat × List SV × List Side × List Dec) :=
  match P.underlying T with
  | some (.slice _) => match evO tm x with
    | some (.o j) => match h[j]? with
      | some (.row _ sz m xs) => bif Nat.beq sz size then some (m, xs, [], D) else none
      | _ => none
    | some (.v (.slice oa m _)) => match D with
      | .lx vs :: D' => some (m, vs.map SV.v, [fun M => vs.length = m * size ∧ (∀ u ∈ vs, u.oneCell' = true) ∧ ((m = 0 ∧ oa = none) ∨ MCells M oa vs)], D')
      | _ => none
    | _ => none
  | some .string => match evO tm x with
    | some (.v (.string s)) => bif Nat.beq size 1 then some (s.size, (byteCells s).map SV.v, [], D) else none
    | _ => none
  | _ => none
def xappend (P : Program) (tm : List (Nat × SV)) (h : List HO) (D : List Dec) (T Tx : TypeId) (s x : Operand) : LR :=
  match P.underlying T with
  | some (.slice el) => match P.info? el with
    | some i => match i.zero with
      | some z => bif Nat.beq z.cells.size i.size then
          match xsrc P tm h D i.size Tx x with
          | some (m, cs, sd, D') => match evO tm s with
            | some (.o j) => match h[j]? with
              | some (.row T1 sz nn xs) => bif Nat.beq T1 el && Nat.beq sz i.size then
                  some (some (.o h.length), h.set j .gone ++ [.row el i.size (nn + m) (xs ++ cs)], (fun _ => (nn + m) * i.bytes ≤ 140737488355328 ∧ nn + m ≤ 140737488355328) :: sd, D')
                else none
              | _ => none
            | some (.v (.slice none 0 0)) => some (some (.o h.length), h ++ [.row el i.size m cs], (fun _ => m * i.bytes ≤ 140737488355328 ∧ m ≤ 140737488355328) :: sd, D')
            | _ => none
          | none => none
        else none
      | none => none
    | none => none
  | _ => none

theorem xsrc_sound (T : TSat n h.length tm e a) (S : SatH F w0 h e w) {size : Nat} {T0 : TypeId} {x : Operand} {m : Nat} {cs : List SV} (hq : xsrc P tm h D size T0 x = some (m, cs, sd, D')) (hsd : ∀ x ∈ sd, x (mem w e h)) :
    Src P size T0 (a.eval x) m (denL e cs) w ∧ wsL h.length cs := by
  unfold xsrc at hq
  split at hq
  · rename_i el hu
    split at hq
    · rename_i j hx
      split at hq
      · rename_i T1 sz m1 xs hj
        cases hb : Nat.beq sz size with
        | false => rw [hb] at hq; cases hq
        | true =>
          rw [hb] at hq
          simp only [cond_true, Option.some.injEq, Prod.mk.injEq] at hq
          obtain ⟨rfl, rfl, rfl, rfl⟩ := hq
          have hsz := Nat.eq_of_beq_eq_true hb
          subst hsz
          refine ⟨?_, S.ws j _ hj⟩
          rw [(evO_sound T hx).1]
          obtain ⟨hown, h3⟩ := S.sat j _ hj
          obtain ⟨h1, h2⟩ := hown
          simp only [den]
          rcases h2 with ⟨hv, hn⟩ | ⟨g, cap, cur, hv, hrest⟩
          · subst hn
            have : denL e xs = [] := List.eq_nil_of_length_eq_zero (by rw [h1]; simp)
            rw [hv, this]
            exact Src.ofNil w hu 0
          · rw [hv]
            refine Src.ofSlice w hu ⟨g, 0, none⟩ m1 cap (denL e xs) h1 ?_ h3
            have hown' : w.ownsRow 0 T1 sz (e.row j) m1 (denL e xs) := ⟨h1, .inr ⟨g, cap, cur, hv, hrest⟩⟩
            exact hown'.cells (by rw [hv]; rfl)
      · cases hq
    · rename_i oa m1 c1 hx
      split at hq
      · rename_i vs D2
        simp only [Option.some.injEq, Prod.mk.injEq] at hq
        obtain ⟨rfl, rfl, rfl, rfl⟩ := hq
        obtain ⟨s1, s2, s3⟩ := hsd _ List.mem_cons_self
        refine ⟨?_, wsL_mapv _ _⟩
        rw [(evO_sound T hx).1, denL_mapv]
        simp only [den]
        rcases s3 with ⟨rfl, rfl⟩ | ⟨ad, rfl, hc⟩
        · have : vs = [] := List.eq_nil_of_length_eq_zero (by rw [s1]; simp)
          subst this
          exact Src.ofNil w hu c1
        · exact Src.ofSlice w hu ad m1 c1 vs s1 (fun j u hj => cell_of_mem (mem_le_wmem w e h) (hc j u hj)) s2
      · cases hq
    · cases hq
  · rename_i hu
    split at hq
    · rename_i s0 hx
      cases hb : Nat.beq size 1 with
      | false => rw [hb] at hq; cases hq
      | true =>
        rw [hb] at hq
        simp only [cond_true, Option.some.injEq, Prod.mk.injEq] at hq
        obtain ⟨rfl, rfl, rfl, rfl⟩ := hq
        have hsz := Nat.eq_of_beq_eq_true hb
        subst hsz
        refine ⟨?_, wsL_mapv _ _⟩
        rw [(evO_sound T hx).1, denL_mapv]
        exact Src.ofString w hu s0
    · cases hq
  · cases hq

theorem xappend_sound (hF : Mono F) (T : TSat n h.length tm e a) (S : SatH F w0 h e w) {o : Oper} {c : Call} {T0 Tx : TypeId} {s x : Operand} (ho : o.op = .call c) (hc1 : c.callee = .builtin .append) (hc2 : c.args = #[s, x]) (hc3 : c.argTypes = #[T0, Tx])
    (hq : xappend P tm h D T0 Tx s x = some (r, h', sd, D')) (hsd : ∀ x ∈ sd, x (mem w e h)) : LGood P F w0 h h' e a w o r := by
  have hexec : ∀ v' w', (Builtin.append_ #[T0, Tx] o.type #[a.eval s, a.eval x]).run P w = .ok v' w' → (execOp a.eval o).run P w = .ok (.value v') w' := by
    intro v' w' hr
    simp [execOp, ho, resolve, hc1, hc2, hc3, invoke, builtin, hr]
  unfold xappend at hq
  split at hq
  · rename_i el hu
    split at hq
    · rename_i i hi
      split at hq
      · rename_i z hz
        cases hb : Nat.beq z.cells.size i.size with
        | false => rw [hb] at hq; cases hq
        | true =>
          rw [hb] at hq
          simp only [cond_true] at hq
          have hzs := Nat.eq_of_beq_eq_true hb
          split at hq
          · rename_i m cs sd1 D1 hsrc
            split at hq
            · rename_i j hs
              split at hq
              · rename_i T1 sz nn xs hj
                cases hb2 : Nat.beq T1 el && Nat.beq sz i.size with
                | false => rw [hb2] at hq; cases hq
                | true =>
                  rw [hb2] at hq
                  simp only [cond_true, Option.some.injEq, Prod.mk.injEq] at hq
                  obtain ⟨rfl, rfl, rfl, rfl⟩ := hq
                  rw [Bool.and_eq_true] at hb2
                  have q1 := Nat.eq_of_beq_eq_true hb2.1
                  have q2 := Nat.eq_of_beq_eq_true hb2.2
                  subst q1
                  subst q2
                  obtain ⟨hbytes, h63⟩ := hsd _ List.mem_cons_self
                  obtain ⟨hsrc1, hsrc2⟩ := xsrc_sound T S hsrc (fun x hx => hsd x (List.mem_cons_of_mem _ hx))
                  obtain ⟨hown, h3⟩ := S.sat j _ hj
                  obtain ⟨v', w', r1, r2, r3, r4⟩ := append_own_src w T0 Tx o.type T1 i z hu hi hz hzs (e.row j) nn (denL e xs) hown (a.eval x) m (denL e cs) hsrc1 hbytes h63
                  have hlt : j < h.length := (List.getElem?_eq_some_iff.1 hj).1
                  have hag := agree_setR e h.length v'
                  have hrow : (e.setR h.length v').row h.length = v' := by simp [Env.setR]
                  have hwx := S.ws j _ hj
                  simp only [HO.ws] at hwx
                  refine ⟨e.setR h.length v', w', hag, by simp, ?_, (fun hk => by rw [keepOp, ho] at hk; cases hk), ?_, ?_⟩
                  · refine S.next hF h.length (.row T1 i.size (nn + m) (xs ++ cs)) (by simp) (by simp) hag ?_ ?_ (e.row j).ownBlock ?_ ?_ ?_ ?_ ?_ ?_ r3.os r3.tape r3.output
                    · intro k ho hk hk'
                      rw [List.getElem?_append] at hk'
                      split at hk'
                      · by_cases hkj : k = j
                        · subst hkj
                          simp [hlt] at hk'
                          exact .inr hk'.symm
                        · exact .inl (set_get hkj hk')
                      · rename_i hge
                        simp only [List.length_set] at hge hk'
                        cases hk2 : k - h.length with
                        | zero => omega
                        | succ q => rw [hk2] at hk'; simp at hk'
                    · intro k ho hk hk'
                      have hklt := (List.getElem?_eq_some_iff.1 hk').1
                      by_cases hkj : k = j
                      · subst hkj
                        right
                        rw [List.getElem?_append_left (by simpa using hklt)]
                        simp [hlt]
                      · left
                        rw [List.getElem?_append_left (by simpa using hklt), List.getElem?_set_ne (Ne.symm hkj)]
                        exact hk'
                    · intro b hb'
                      refine ⟨j, _, hj, hb', .inr ?_⟩
                      rw [List.getElem?_append_left (by simpa using hlt)]
                      simp [hlt]
                    · intro ho b hk _
                      have := (List.getElem?_eq_some_iff.1 hk).1
                      omega
                    · simp only [HO.sat, hrow]
                      have hws2 : wsL h.length (xs ++ cs) := wsL_append.2 ⟨hwx, hsrc2⟩
                      rw [denL_agree hag _ hws2, denL_append]
                      refine ⟨r2, fun u hu => ?_⟩
                      rcases List.mem_append.1 hu with hu | hu
                      · exact h3 u hu
                      · exact hsrc1.one u hu
                    · exact wsL_mono (by simp) _ (wsL_append.2 ⟨hwx, hsrc2⟩)
                    · intro b hb'
                      simp only [HO.own, hrow] at hb'
                      exact r4 b hb'
                    · intro b hb' hne
                      exact r3.block b hb' (fun hh => hne hh.symm)
                  · rw [hexec v' w' (by rw [(evO_sound T hs).1]; exact r1)]
                    simp only [den, hrow]
                  · simp [ws]
              · cases hq
            · rename_i hs
              simp only [Option.some.injEq, Prod.mk.injEq] at hq
              obtain ⟨rfl, rfl, rfl, rfl⟩ := hq
              obtain ⟨hbytes, h63⟩ := hsd _ List.mem_cons_self
              obtain ⟨hsrc1, hsrc2⟩ := xsrc_sound T S hsrc (fun x hx => hsd x (List.mem_cons_of_mem _ hx))
              obtain ⟨v', w', r1, r2, r3, r4⟩ := append_own_src w T0 Tx o.type el i z hu hi hz hzs (.slice none 0 0) 0 [] (World.ownsRow_nil w 0 el i.size) (a.eval x) m (denL e cs) hsrc1 (by simpa using hbytes) (by simpa using h63)
              simp only [Nat.zero_add, List.nil_append] at r2
              have hrow : (e.setR h.length v').row h.length = v' := by simp [Env.setR]
              refine ⟨e.setR h.length v', w', agree_setR e h.length v', by simp, S.newRow hF el i.size m cs v' hsrc2 r2 hsrc1.one ?_ ⟨r3.os, r3.tape, r3.output, r3.size, fun k hk _ => r3.block k hk (by simp [Value.ownBlock])⟩, (fun hk => by rw [keepOp, ho] at hk; cases hk), ?_, ?_⟩
              · intro b hb'
                rcases r4 b hb' with hh | hh
                · exact hh
                · cases hh
              · rw [hexec v' w' (by rw [(evO_sound T hs).1]; exact r1)]
                simp only [den, hrow]
              · simp [ws]
            · cases hq
          · cases hq
      · cases hq
    · cases hq
  · cases hq
end
end Go.Sx
