/- The operations that make or write memory. -/
import Derived.Test.YtpghmnpbfaichaaSx8
namespace Go.Sx
open Go.RowKit

def Env.setB (e : Env) (i b : Nat) : Env := ⟨fun j => if j = i then b else e.blk j, e.row⟩
def Env.setR (e : Env) (i : Nat) (v : Value) : Env := ⟨e.blk, fun j => if j = i then v else e.row j⟩
theorem agree_setB (e : Env) (i b : Nat) : agree i e (e.setB i b) := fun j hj => ⟨by simp [Env.setB, Nat.ne_of_lt hj], rfl⟩
theorem agree_setR (e : Env) (i : Nat) (v : Value) : agree i e (e.setR i v) := fun j hj => ⟨rfl, by simp [Env.setR, Nat.ne_of_lt hj]⟩

def oneB (h : List HO) : SV → Bool
  | .v (.agg _) => false
  | .v (.tuple _) => false
  | .v (.bool _) => true
  | .v (.int _ _) => true
  | .v (.string _) => true
  | .v (.pointer _) => true
  | .v (.slice _ _ _) => true
  | .v (.map _) => true
  | .v (.func _ _ _) => true
  | .v .nilFunc => true
  | .v (.iface _ _) => true
  | .v .nilIface => true
  | .v _ => false
  | .agg _ => false
  | .tup _ => false
  | .o i => isRow h[i]?
  | _ => true
theorem oneB_sound {F : Mem → Prop} {h : List HO} {e : Env} {w : World} (S : SatQ F h e w) {s : SV} (ho : oneB h s = true) : (den e s).oneCell' = true := by
  cases s with
  | v x => cases x <;> first | rfl | cases ho
  | o i =>
    obtain ⟨oa, n, c, hv⟩ := row_slice S (i := i) ho
    simp only [den, hv]
    rfl
  | q i off =>
    simp only [den]
    split <;> rfl
  | agg c => cases ho
  | tup c => cases ho
  | bl b => rfl
  | p i off => rfl
  | m i => rfl
  | sl i off l c => rfl
  | fn f a c => rfl
  | ifc t y => rfl
theorem oneB_all {F : Mem → Prop} {h : List HO} {e : Env} {w : World} (S : SatQ F h e w) {l : List SV} (ho : l.all (oneB h) = true) : ∀ u ∈ denL e l, u.oneCell' = true := by
  intro u hu
  rw [denL_map, List.mem_map] at hu
  obtain ⟨s, hs, rfl⟩ := hu
  exact oneB_sound S (List.all_eq_true.1 ho s hs)

abbrev LR := Option (Option SV × List HO × List Side × List Dec)

def xalloc (P : Program) (h : List HO) (D : List Dec) (T : TypeId) : LR :=
  match prun P (zeroValue T) with
  | some z => some (some (.p h.length 0), h ++ [.cells (z.cells.toList.map SV.v) T], [], D)
  | none => none
def xbox (tm : List (Nat × SV)) (h : List HO) (D : List Dec) (T : TypeId) (x : Operand) : LR :=
  match evO tm x with
  | some s => match cellsOfSV h s with
    | some cs => some (some (.p h.length 0), h ++ [.cells cs T], [], D)
    | none => none
  | none => none
def xstore (P : Program) (tm : List (Nat × SV)) (h : List HO) (D : List Dec) (T : TypeId) (x y : Operand) : LR :=
  match evO tm y with
  | none => none
  | some s => match cellsOfSV h s, tsize P T with
    | some cs, some n => bif Nat.beq cs.length n && cs.all (oneB h) then
        match evO tm x with
        | some (.p i off) => match h[i]? with
          | some (.cells old T0) => some (none, h.set i (.cells (putL old off cs) T0), [fun _ => off + cs.length ≤ old.length], D)
          | _ => none
        | some (.q i off) => match h[i]? with
          | some (.row T0 sz nn old) => some (none, h.set i (.row T0 sz nn (putL old off cs)), [fun _ => 0 < old.length ∧ off + cs.length ≤ old.length], D)
          | _ => none
        | _ => none
      else none
    | _, _ => none
def xbuildSlice (P : Program) (tm : List (Nat × SV)) (h : List HO) (D : List Dec) (t : TypeId) (len : Nat) (parts : Array (Nat × Operand)) : LR :=
  match P.underlying t, evParts tm parts.toList with
  | some (.slice el), some ps => match tsize P el, prun P (zeroValue el) with
    | some sz, some z =>
      bif Nat.ble (len * sz) 16777216 && Nat.ble len 16777216 then
        match fillS h (fun i => some (i * sz, sz)) (((Array.range (len * sz)).map fun j => (if len * sz = 0 then (#[] : Array Value) else z.cells)[j % (if len * sz = 0 then (#[] : Array Value) else z.cells).size]!).toList.map SV.v) ps with
        | some cs => bif cs.all (oneB h) && Nat.beq cs.length (len * sz) then some (some (.o h.length), h ++ [.row el sz len cs], [], D) else none
        | none => none
      else none
    | _, _ => none
  | _, _ => none

section
variable {P : Program} {F : Mem → Prop} {w0 : World} {tm : List (Nat × SV)} {n : Nat} {h h' : List HO} {e : Env} {a : Act} {w : World} {D D' : List Dec} {r : Option SV} {sd : List Side}

/-- Operations that only make memory. -/
def keepOp (o : Oper) : Bool :=
  match o.op with
  | .alloc _ => true
  | .box .. => true
  | .buildSlice .. => true
  | .makeSlice .. => true
  | .range .. => true
  | _ => false
/-- What was there is as it was. -/
def Grow (w w' : World) : Prop := ∀ b, b < w.heap.size → w'.heap[b]? = w.heap[b]?
/-- What is to be shown of each. -/
def LGood (P : Program) (F : Mem → Prop) (w0 : World) (h h' : List HO) (e : Env) (a : Act) (w : World) (o : Oper) (r : Option SV) : Prop :=
  ∃ e' w', agree h.length e e' ∧ h.length ≤ h'.length ∧ SatH F w0 h' e' w' ∧ (keepOp o = true → Grow w w') ∧
    (match r with
     | some s => (execOp a.eval o).run P w = .ok (.value (den e' s)) w' ∧ ws h'.length s
     | none => (execOp a.eval o).run P w = .ok .skip w')

theorem SatH.newCells (hF : Mono F) (S : SatH F w0 h e w) (cs : List SV) (T : TypeId) (hw : wsL h.length cs) :
    SatH F w0 (h ++ [.cells cs T]) (e.setB h.length w.heap.size) (w.alloc (.cells (denL e cs).toArray T)) := by
  refine S.next hF h.length (.cells cs T) (by simp) (by simp) (agree_setB e _ _) ?_ ?_ none (by simp) ?_ ?_ ?_ ?_ ?_ rfl rfl rfl
  · intro i ho hi hi'
    refine .inl ?_
    rw [List.getElem?_append] at hi'
    split at hi'
    · exact hi'
    · rename_i hlt
      have : i - h.length ≠ 0 := by omega
      cases hk : i - h.length with
      | zero => omega
      | succ k => rw [hk] at hi'; simp at hi'
  · intro i ho _ hi
    refine .inl ?_
    rw [List.getElem?_append_left (List.getElem?_eq_some_iff.1 hi).1]
    exact hi
  · intro ho b hi _
    have := (List.getElem?_eq_some_iff.1 hi).1
    omega
  · simp only [HO.sat, Env.setB, if_true]
    rw [heap_alloc_new]
    have : denL (⟨fun j => if j = h.length then w.heap.size else e.blk j, e.row⟩ : Env) cs = denL e cs := denL_agree (agree_setB e h.length w.heap.size) cs hw
    rw [this]
  · exact wsL_mono (by simp) cs hw
  · intro b hb
    simp only [HO.own, Env.setB, if_true, Option.some.injEq] at hb
    exact .inl (by omega)
  · intro b hb _
    exact heap_alloc_old w _ b hb

theorem SatH.newRow (hF : Mono F) (S : SatH F w0 h e w) {w' : World} (T : TypeId) (sz nn : Nat) (cs : List SV) (v : Value) (hw : wsL h.length cs)
    (hr : w'.ownsRow 0 T sz v nn (denL e cs)) (h1 : ∀ u ∈ denL e cs, u.oneCell' = true) (hfr : ∀ b, v.ownBlock = some b → w.heap.size ≤ b)
    (hg : w.grownBy w' none) : SatH F w0 (h ++ [.row T sz nn cs]) (e.setR h.length v) w' := by
  have hag := agree_setR e h.length v
  refine S.next hF h.length (.row T sz nn cs) (by simp) (by simp) hag ?_ ?_ none (by simp) ?_ ?_ ?_ ?_ ?_ hg.os hg.tape hg.output
  · intro i ho hi hi'
    refine .inl ?_
    rw [List.getElem?_append] at hi'
    split at hi'
    · exact hi'
    · rename_i hlt
      cases hk : i - h.length with
      | zero => omega
      | succ k => rw [hk] at hi'; simp at hi'
  · intro i ho _ hi
    refine .inl ?_
    rw [List.getElem?_append_left (List.getElem?_eq_some_iff.1 hi).1]
    exact hi
  · intro ho b hi _
    have := (List.getElem?_eq_some_iff.1 hi).1
    omega
  · simp only [HO.sat, denL_agree hag cs hw]
    have : (e.setR h.length v).row h.length = v := by simp [Env.setR]
    rw [this]
    exact ⟨hr, h1⟩
  · exact wsL_mono (by simp) cs hw
  · intro b hb
    have : (e.setR h.length v).row h.length = v := by simp [Env.setR]
    simp only [HO.own, this] at hb
    exact .inl (hfr b hb)
  · intro b hb _
    exact hg.block b hb (by simp)

theorem xalloc_sound (hF : Mono F) (S : SatH F w0 h e w) {o : Oper} {T0 : TypeId} (ho : o.op = .alloc T0)
    (hq : xalloc P h D T0 = some (r, h', sd, D')) : LGood P F w0 h h' e a w o r := by
  unfold xalloc at hq
  split at hq
  · rename_i z hz
    simp only [Option.some.injEq, Prod.mk.injEq] at hq
    obtain ⟨rfl, rfl, rfl, rfl⟩ := hq
    refine ⟨_, _, agree_setB e h.length w.heap.size, by simp, S.newCells hF (z.cells.toList.map SV.v) T0 (wsL_mapv _ _), fun _ b hb => heap_alloc_old w _ b hb, ?_, ?_⟩
    · simp only [execOp, ho, Instr.alloc, Sem.run_bind, prun_sound hz w, Result.andThen_ok, newVar, newRow, run_newObj, Sem.run_pure, den, Env.setB, if_true, denL_mapv, Array.toArray_toList]
      rfl
    · simp [ws]
  · cases hq

theorem xbox_sound (hF : Mono F) (T : TSat n h.length tm e a) (S : SatH F w0 h e w) {o : Oper} {T0 : TypeId} {x : Operand} (ho : o.op = .box T0 x)
    (hq : xbox tm h D T0 x = some (r, h', sd, D')) : LGood P F w0 h h' e a w o r := by
  unfold xbox at hq
  split at hq
  · rename_i s hx
    split at hq
    · rename_i cs hcs
      simp only [Option.some.injEq, Prod.mk.injEq] at hq
      obtain ⟨rfl, rfl, rfl, rfl⟩ := hq
      obtain ⟨c1, c2⟩ := cellsOfSV_sound S.q hcs
      refine ⟨_, _, agree_setB e h.length w.heap.size, by simp, S.newCells hF cs T0 (c2 _ (evO_sound T hx).2), fun _ b hb => heap_alloc_old w _ b hb, ?_, ?_⟩
      · simp only [execOp, ho, (evO_sound T hx).1, Instr.box, newVar, newRow, c1, Sem.run_bind, run_newObj, Result.andThen_ok, Sem.run_pure, den, Env.setB, if_true]
        rfl
      · simp [ws]
    · cases hq
  · cases hq

theorem xbuildSlice_sound (hF : Mono F) (T : TSat n h.length tm e a) (S : SatH F w0 h e w) {o : Oper} {t : TypeId} {len : Nat} {parts : Array (Nat × Operand)} (ho : o.op = .buildSlice t len parts)
    (hq : xbuildSlice P tm h D t len parts = some (r, h', sd, D')) : LGood P F w0 h h' e a w o r := by
  unfold xbuildSlice at hq
  split at hq
  · rename_i el ps hu hps
    split at hq
    · rename_i sz z hsz hz
      cases hb : Nat.ble (len * sz) 16777216 && Nat.ble len 16777216 with
      | false => rw [hb] at hq; cases hq
      | true =>
        rw [hb] at hq
        simp only [cond_true] at hq
        rw [Bool.and_eq_true] at hb
        have b1 := Nat.le_of_ble_eq_true hb.1
        have b2 := Nat.le_of_ble_eq_true hb.2
        split at hq
        · rename_i cs hcs
          cases hb2 : cs.all (oneB h) && Nat.beq cs.length (len * sz) with
          | false => rw [hb2] at hq; cases hq
          | true =>
            rw [hb2] at hq
            simp only [cond_true, Option.some.injEq, Prod.mk.injEq] at hq
            obtain ⟨rfl, rfl, rfl, rfl⟩ := hq
            rw [Bool.and_eq_true] at hb2
            have hlen := Nat.eq_of_beq_eq_true hb2.2
            obtain ⟨p1, p2⟩ := evParts_sound T parts.toList hps
            have hparts : (parts.map fun (x : Nat × Operand) => (x.1, a.eval x.2)).toList = ps.map fun x => (x.1, den e x.2) := by
              rw [Array.toList_map]; exact p1
            obtain ⟨f1, f2⟩ := fillS_sound S.q h.length _ ps _ hcs (wsL_mapv _ _) p2
            rw [denL_mapv, Array.toArray_toList] at f1
            refine ⟨_, _, agree_setR e h.length (.slice (some ⟨w.heap.size, 0, none⟩) len len), by simp, S.newRow hF (w' := w.alloc (.cells (denL e cs).toArray el)) el sz len cs _ f2 ?_ (oneB_all S.q hb2.1) ?_ (World.grownBy_alloc w _ none), fun _ b hb => heap_alloc_old w _ b hb, ?_, ?_⟩
            · have := World.ownsRow_lit (base := 0) (e := el) (size := sz) w (denL e cs).toArray len (Nat.zero_le _) (by unfold maxLen; omega) (by simp [denL_length, hlen])
              simpa using this
            · intro b hb
              simp only [Value.ownBlock, Option.some.injEq] at hb
              omega
            · have hbig : ¬ len * sz > 2 ^ 24 := by omega
              have e1 : (execOp a.eval o).run P w = ((do let x ← Instr.buildSlice t len (parts.map fun (x : Nat × Operand) => (x.1, a.eval x.2)); pure (Next.value x) : Sem Next)).run P w := by
                simp only [execOp, ho]
              rw [e1]
              simp only [Instr.buildSlice, hparts]
              by_cases hz0 : len * sz = 0
              · have hb0 : ¬ (0 > 2 ^ 24) := by omega
                simp only [hz0, if_true] at f1
                simp only [hb0, if_false, Sem.run_bind, run_underlying hu, Result.andThen_ok, tsize_run hsz, Sem.run_pure, hz0, if_true, f1, newRow, run_newObj, den, Env.setR]
                rfl
              · simp only [hz0, if_false] at f1
                simp only [Sem.run_bind, run_underlying hu, Result.andThen_ok, tsize_run hsz, Sem.run_pure, hz0, if_false, hbig, prun_sound hz w, f1, newRow, run_newObj, den, Env.setR]
                rfl
            · simp [ws]
        · cases hq
    · cases hq
  · cases hq
end
end Go.Sx
