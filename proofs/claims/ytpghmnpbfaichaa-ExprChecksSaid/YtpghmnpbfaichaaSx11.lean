/- make; a range over a string; all operations that make or write memory together. -/
import Derived.Test.YtpghmnpbfaichaaSx10
import Derived.Laws.BytesString
namespace Go.Sx
open Go.RowKit

def zeroRow (z : List Value) (n : Nat) : List SV := (List.range n).map fun j => SV.v (z[j % z.length]!)
def xmake (P : Program) (tm : List (Nat × SV)) (h : List HO) (D : List Dec) (T : TypeId) (l c : Operand) : LR :=
  match P.underlying T, evInt tm l, evInt tm c with
  | some (.slice el), some (_, li), some (_, ci) => match P.info? el with
    | some i => match i.zero with
      | some z => match D with
        | .lx _ :: D' => some (some (.sl h.length 0 li.toNat ci.toNat), h ++ [.cells (zeroRow z.cells.toList (ci.toNat * i.size)) el],
            [fun _ => 0 ≤ li ∧ li ≤ ci ∧ (i.bytes : Int) * ci ≤ 281474976710656 ∧ ci ≤ 9223372036854775807], D')
        | _ => some (some (.o h.length), h ++ [.row el i.size li.toNat (zeroRow z.cells.toList (li.toNat * i.size))],
          [fun _ => 0 ≤ li ∧ li ≤ ci ∧ (i.bytes : Int) * ci ≤ 281474976710656 ∧ ci ≤ 9223372036854775807, fun _ => z.cells.toList.all (fun u => u.oneCell') = true ∧ 0 < z.cells.size], D)
      | none => none
    | none => none
  | _, _, _ => none
def xrange (P : Program) (tm : List (Nat × SV)) (h : List HO) (D : List Dec) (T : TypeId) (x : Operand) : LR :=
  match P.underlying T, evO tm x with
  | some .string, some (.v (.string s)) => some (some (.p h.length 0), h ++ [.obj (.stringIter s 0)], [], D)
  | _, _ => none
def xnext (tm : List (Nat × SV)) (h : List HO) (D : List Dec) (it : Operand) (isS : Bool) : LR :=
  match evO tm it, isS with
  | some (.p i 0), true => match h[i]? with
    | some (.obj (.stringIter s pos)) => match D with
      | .t :: D' => some (some (.tup [.bl true, .v (.int .i64 pos), .v (.int .i32 (Utf8.decode s pos).1)]), h.set i (.obj (.stringIter s (pos + (Utf8.decode s pos).2))), [fun _ => pos < s.size], D')
      | .f :: D' => some (some (.tup [.bl false]), h, [fun _ => ¬ pos < s.size], D')
      | _ => none
    | _ => none
  | _, _ => none

def u8n : Value → Option Nat
  | .int .u8 x => some x.toNat
  | _ => none
/-- The text of bytes that are values. -/
def txt (l : List Value) : ByteArray := ⟨(l.map fun v => UInt8.ofNat ((u8n v).getD 0)).toArray⟩
def vals (xs : List SV) : List Value := xs.map fun s => (plain s).getD undef
def xstr (P : Program) (tm : List (Nat × SV)) (h : List HO) (D : List Dec) (src dst : TypeId) (x : Operand) : LR :=
  match P.underlying src, P.underlying dst with
  | some (.slice el), some .string => match P.underlying el with
    | some (.int .u8) => match evO tm x with
      | some (.o i) => match h[i]? with
        | some (.row _ sz _ xs) => bif Nat.beq sz 1 then some (some (.v (.string (txt (vals xs)))), h, [fun _ => xs = (vals xs).map SV.v ∧ ∀ v ∈ vals xs, ∃ n : Nat, v = .int .u8 (n : Int)], D) else none
        | _ => none
      | _ => none
    | _ => none
  | _, _ => none

def xl (P : Program) (tm : List (Nat × SV)) (h : List HO) (D : List Dec) (o : Oper) : LR :=
  match o.op with
  | .alloc T => xalloc P h D T
  | .box T x => xbox tm h D T x
  | .store T x y => xstore P tm h D T x y
  | .buildSlice t len parts => xbuildSlice P tm h D t len parts
  | .makeSlice T l c => xmake P tm h D T l c
  | .range T x => xrange P tm h D T x
  | .next it isS => xnext tm h D it isS
  | .convert src dst x => xstr P tm h D src dst x
  | .call c => match c.callee with
    | .builtin .append => match c.args.toList, c.argTypes.toList with
      | [s, x], [T, Tx] => xappend P tm h D T Tx s x
      | _, _ => none
    | _ => none
  | _ => none

section
variable {P : Program} {F : Mem → Prop} {w0 : World} {tm : List (Nat × SV)} {n : Nat} {h h' : List HO} {e : Env} {a : Act} {w : World} {D D' : List Dec} {r : Option SV} {sd : List Side}

theorem SatH.newObj (hF : Mono F) (S : SatH F w0 h e w) (o : Obj) (ho : isCells o = false) :
    SatH F w0 (h ++ [.obj o]) (e.setB h.length w.heap.size) (w.alloc o) := by
  refine S.next hF h.length (.obj o) (by simp) (by simp) (agree_setB e _ _) ?_ ?_ none (by simp) ?_ ?_ trivial ?_ ?_ rfl rfl rfl
  · intro i x hi hi'
    refine .inl ?_
    rw [List.getElem?_append] at hi'
    split at hi'
    · exact hi'
    · rename_i hlt
      cases hk : i - h.length with
      | zero => omega
      | succ k => rw [hk] at hi'; simp at hi'
  · intro i x _ hi
    refine .inl ?_
    rw [List.getElem?_append_left (List.getElem?_eq_some_iff.1 hi).1]
    exact hi
  · intro x b hi _
    have := (List.getElem?_eq_some_iff.1 hi).1
    omega
  · simp only [HO.sat, Env.setB, if_true]
    exact ⟨heap_alloc_new w o, ho⟩
  · intro b hb
    simp only [HO.own, Env.setB, if_true, Option.some.injEq] at hb
    exact .inl (by omega)
  · intro b hb _
    exact heap_alloc_old w _ b hb

theorem zeroRow_den (e : Env) (z : List Value) (n : Nat) : denL e (zeroRow z n) = (List.range n).map fun j => z[j % z.length]! := by
  simp [zeroRow, denL_map, den]
theorem zeroRow_ws (k : Nat) (z : List Value) (n : Nat) : wsL k (zeroRow z n) := by
  rw [wsL_iff]
  intro x hx
  simp only [zeroRow, List.mem_map] at hx
  obtain ⟨j, _, rfl⟩ := hx
  trivial
theorem madeCells_take (z : Array Value) (m n : Nat) (h : m ≤ n) : (madeCells z n).toList.take m = (List.range m).map fun j => z.toList[j % z.toList.length]! := by
  simp only [madeCells, Array.toList_map, Array.toList_range, ← List.map_take]
  rw [List.take_range, Nat.min_eq_left h]
  simp
  intro q _
  rw [getElem!_def]
  cases z[q % z.size]? <;> rfl

theorem xmake_sound (hF : Mono F) (T : TSat n h.length tm e a) (S : SatH F w0 h e w) {o : Oper} {T0 : TypeId} {l c : Operand} (ho : o.op = .makeSlice T0 l c)
    (hq : xmake P tm h D T0 l c = some (r, h', sd, D')) (hsd : ∀ x ∈ sd, x (mem w e h)) : LGood P F w0 h h' e a w o r := by
  unfold xmake at hq
  split at hq
  · rename_i el kl li kc ci hu hl hc
    split at hq
    · rename_i i hi
      split at hq
      · rename_i z hz
        split at hq
        · simp only [Option.some.injEq, Prod.mk.injEq] at hq
          obtain ⟨rfl, rfl, rfl, rfl⟩ := hq
          have hs1 : 0 ≤ li ∧ li ≤ ci ∧ (i.bytes : Int) * ci ≤ 281474976710656 ∧ ci ≤ 9223372036854775807 := hsd _ List.mem_cons_self
          obtain ⟨s1, s2, s3, s4⟩ := hs1
          have hr := run_make (P := P) w T0 el i z hu hi hz kl kc li ci s1 s2 s3 s4
          have hcells : madeCells z.cells (ci.toNat * i.size) = (denL e (zeroRow z.cells.toList (ci.toNat * i.size))).toArray := by
            apply Array.ext'
            rw [zeroRow_den, ← madeCells_take z.cells _ _ (Nat.le_refl _), List.take_of_length_le (by simp [size_madeCells])]
          have hnew := S.newCells hF (zeroRow z.cells.toList (ci.toNat * i.size)) el (zeroRow_ws _ _ _)
          rw [← hcells] at hnew
          refine ⟨_, _, agree_setB e h.length w.heap.size, by simp, hnew, fun _ b hb => heap_alloc_old w _ b hb, ?_, ?_⟩
          · simp only [execOp, ho, evInt_sound T hl, evInt_sound T hc]
            rw [Sem.run_bind, hr]
            simp only [Result.andThen_ok, Sem.run_pure, den, Env.setB, if_true]
          · simp [ws]
        simp only [Option.some.injEq, Prod.mk.injEq] at hq
        obtain ⟨rfl, rfl, rfl, rfl⟩ := hq
        have hs1 : 0 ≤ li ∧ li ≤ ci ∧ (i.bytes : Int) * ci ≤ 281474976710656 ∧ ci ≤ 9223372036854775807 := hsd _ List.mem_cons_self
        have hs2 : z.cells.toList.all (fun u => u.oneCell') = true ∧ 0 < z.cells.size := hsd _ (List.mem_cons_of_mem _ List.mem_cons_self)
        obtain ⟨s1, s2, s3, s4⟩ := hs1
        obtain ⟨s5, s6⟩ := hs2
        have hr := run_make (P := P) w T0 el i z hu hi hz kl kc li ci s1 s2 s3 s4
        have hle : li.toNat * i.size ≤ ci.toNat * i.size := Nat.mul_le_mul_right _ (by omega)
        refine ⟨_, _, agree_setR e h.length (.slice (some ⟨w.heap.size, 0, none⟩) li.toNat ci.toNat), by simp,
          S.newRow hF (w' := w.alloc (.cells (madeCells z.cells (ci.toNat * i.size)) el)) el i.size li.toNat _ _ (zeroRow_ws _ _ _) ?_ ?_ ?_ (World.grownBy_alloc w _ none), fun _ b hb => heap_alloc_old w _ b hb, ?_, ?_⟩
        · rw [zeroRow_den]
          refine ⟨by simp, .inr ⟨w.heap.size, ci.toNat, _, rfl, Nat.zero_le _, heap_alloc_new w _, by omega, by unfold maxLen; omega, size_madeCells _ _, madeCells_take _ _ _ hle⟩⟩
        · intro u hu
          rw [zeroRow_den, List.mem_map] at hu
          obtain ⟨j, _, rfl⟩ := hu
          rw [List.all_eq_true] at s5
          have hlt : j % z.cells.toList.length < z.cells.toList.length := Nat.mod_lt _ (by simpa using s6)
          rw [getElem!_pos z.cells.toList _ hlt]
          exact s5 _ (List.getElem_mem hlt)
        · intro b hb
          simp only [Value.ownBlock, Option.some.injEq] at hb
          omega
        · simp only [execOp, ho, evInt_sound T hl, evInt_sound T hc]
          rw [Sem.run_bind, hr]
          simp only [Result.andThen_ok, Sem.run_pure, den, Env.setR, if_true]
        · simp [ws]
      · cases hq
    · cases hq
  · cases hq

theorem xrange_sound (hF : Mono F) (T : TSat n h.length tm e a) (S : SatH F w0 h e w) {o : Oper} {T0 : TypeId} {x : Operand} (ho : o.op = .range T0 x)
    (hq : xrange P tm h D T0 x = some (r, h', sd, D')) : LGood P F w0 h h' e a w o r := by
  unfold xrange at hq
  split at hq
  · rename_i s hu hx
    simp only [Option.some.injEq, Prod.mk.injEq] at hq
    obtain ⟨rfl, rfl, rfl, rfl⟩ := hq
    refine ⟨_, _, agree_setB e h.length w.heap.size, by simp, S.newObj hF (.stringIter s 0) rfl, fun _ b hb => heap_alloc_old w _ b hb, ?_, ?_⟩
    · simp only [execOp, ho, (evO_sound T hx).1, den]
      rw [Sem.run_bind, run_range_string w T0 s hu]
      simp only [Result.andThen_ok, Sem.run_pure, Env.setB, if_true]
      rfl
    · simp [ws]
  · cases hq

theorem xnext_sound (hF : Mono F) (T : TSat n h.length tm e a) (S : SatH F w0 h e w) {o : Oper} {it : Operand} {isS : Bool} (ho : o.op = .next it isS)
    (hq : xnext tm h D it isS = some (r, h', sd, D')) (hsd : ∀ x ∈ sd, x (mem w e h)) : LGood P F w0 h h' e a w o r := by
  unfold xnext at hq
  split at hq
  · rename_i i hx
    split at hq
    · rename_i s pos hi
      have hsat := (S.sat i _ hi).1
      have hlt : e.blk i < w.heap.size := (Array.getElem?_eq_some_iff.1 hsat).1
      split at hq
      · simp only [Option.some.injEq, Prod.mk.injEq] at hq
        obtain ⟨rfl, rfl, rfl, rfl⟩ := hq
        have hp : pos < s.size := hsd _ List.mem_cons_self
        refine ⟨e, { w with heap := w.heap.setIfInBounds (e.blk i) (.stringIter s (pos + (Utf8.decode s pos).2)) }, agree.refl _ _, by simp,
          S.turn hF hi (e.blk i) rfl rfl ?_ trivial ?_ rfl rfl rfl, (fun hk => by rw [keepOp, ho] at hk; cases hk), ?_, ?_⟩
        · simp only [HO.sat]
          exact ⟨by simp [hlt], rfl⟩
        · intro k _ hne
          simp [Array.getElem?_setIfInBounds_ne (Ne.symm hne)]
        · simp only [execOp, ho, (evO_sound T hx).1, den, denL]
          simp [Instr.next, getObj, setObj, Sem.run, hsat, hp, goInt]
        · exact ⟨trivial, trivial, trivial, trivial⟩
      · simp only [Option.some.injEq, Prod.mk.injEq] at hq
        obtain ⟨rfl, rfl, rfl, rfl⟩ := hq
        have hp : ¬ pos < s.size := hsd _ List.mem_cons_self
        refine ⟨e, w, agree.refl _ _, Nat.le_refl _, S, fun _ _ _ => rfl, ?_, ?_⟩
        · simp only [execOp, ho, (evO_sound T hx).1, den, denL]
          simp [Instr.next, getObj, Sem.run, hsat, hp]
        · exact ⟨trivial, trivial⟩
      · cases hq
    · cases hq
  · cases hq

theorem foldl_push_txt : ∀ (l : List Value) (r : ByteArray), (l.map fun v => ((u8n v).getD 0 : Nat)).foldl (fun (r : ByteArray) (n : Nat) => r.push (UInt8.ofNat ((n : Int)).toNat)) r = ⟨r.data ++ (l.map fun v => UInt8.ofNat ((u8n v).getD 0)).toArray⟩
  | [], r => by simp
  | v :: l, r => by
    simp only [List.map_cons, List.foldl_cons]
    rw [foldl_push_txt l]
    simp [ByteArray.push]
theorem xstr_sound (T : TSat n h.length tm e a) (S : SatH F w0 h e w) {o : Oper} {src dst : TypeId} {x : Operand} (ho : o.op = .convert src dst x)
    (hq : xstr P tm h D src dst x = some (r, h', sd, D')) (hsd : ∀ x ∈ sd, x (mem w e h)) : LGood P F w0 h h' e a w o r := by
  unfold xstr at hq
  split at hq
  · rename_i el hs hd
    split at hq
    · rename_i he
      split at hq
      · rename_i i hx
        split at hq
        · rename_i T1 sz m xs hi
          cases hb : Nat.beq sz 1 with
          | false => rw [hb] at hq; cases hq
          | true =>
            rw [hb] at hq
            simp only [cond_true, Option.some.injEq, Prod.mk.injEq] at hq
            obtain ⟨rfl, rfl, rfl, rfl⟩ := hq
            have hsz := Nat.eq_of_beq_eq_true hb
            subst hsz
            obtain ⟨hp, hu8⟩ : xs = (vals xs).map SV.v ∧ ∀ v ∈ vals xs, ∃ n : Nat, v = .int .u8 (n : Int) := hsd _ List.mem_cons_self
            refine ⟨e, w, agree.refl _ _, Nat.le_refl _, S, fun _ _ _ => rfl, ?_, trivial⟩
            obtain ⟨⟨h1, h2⟩, _⟩ := S.sat i _ hi
            have hden : denL e xs = vals xs := by
              conv => lhs; rw [hp, denL_mapv]
            rw [hden] at h1 h2
            have hints : vals xs = ((vals xs).map fun v => ((u8n v).getD 0 : Nat)).map fun n => Value.int .u8 ((n : Nat) : Int) := by
              rw [List.map_map]
              conv => lhs; rw [← List.map_id (vals xs)]
              apply List.map_congr_left
              intro v hv
              obtain ⟨k, rfl⟩ := hu8 v hv
              simp [u8n]
            simp only [execOp, ho, (evO_sound T hx).1, den]
            rcases h2 with ⟨hv, hn⟩ | ⟨g, cap, cur, hv, hrest⟩
            · subst hn
              have hnil : vals xs = [] := List.eq_nil_of_length_eq_zero (by rw [h1])
              rw [hv, hnil, Sem.run_bind, run_convert_bytes_string w src dst el none 0 0 hs he hd]
              rfl
            · have hown' : w.ownsRow 0 T1 1 (e.row i) m (vals xs) := ⟨h1, .inr ⟨g, cap, cur, hv, hrest⟩⟩
              have hc := hown'.cells (by rw [hv]; rfl)
              rw [hv, Sem.run_bind, run_convert_bytes_string w src dst el _ m cap hs he hd]
              have hl : (loadCells ⟨g, 0, none⟩ m).run P w = .ok (((vals xs).map fun v => ((u8n v).getD 0 : Nat)).map fun n => Value.int .u8 ((n : Nat) : Int)).toArray w := by
                rw [← hints]
                have hm1 : m = (vals xs).length := by rw [h1, Nat.mul_one]
                rw [hm1]
                exact run_loadCells_list w ⟨g, 0, none⟩ (vals xs) hc
              have := run_bytesToString (P := P) w ⟨g, 0, none⟩ m cap (((vals xs).map fun v => ((u8n v).getD 0 : Nat)).map fun n => ((n : Nat) : Int)) (by rw [List.map_map]; exact hl)
              rw [this, List.foldl_map, foldl_push_txt]
              simp [Sem.run_pure, txt]
        · cases hq
      · cases hq
    · cases hq
  · cases hq

theorem xl_sound (hF : Mono F) (T : TSat n h.length tm e a) (S : SatH F w0 h e w) {o : Oper} (hq : xl P tm h D o = some (r, h', sd, D')) (hsd : hold F sd) : LGood P F w0 h h' e a w o r := by
  have hs : ∀ x ∈ sd, x (mem w e h) := fun x hx => hsd x hx _ S.fact
  unfold xl at hq
  split at hq
  · rename_i ho; exact xalloc_sound hF S ho hq
  · rename_i ho; exact xbox_sound hF T S ho hq
  · rename_i ho; exact xstore_sound hF T S ho hq hs
  · rename_i ho; exact xbuildSlice_sound hF T S ho hq
  · rename_i ho; exact xmake_sound hF T S ho hq hs
  · rename_i ho; exact xrange_sound hF T S ho hq
  · rename_i ho; exact xnext_sound hF T S ho hq hs
  · rename_i ho; exact xstr_sound T S ho hq hs
  · rename_i c ho
    split at hq
    · rename_i hc
      split at hq
      · rename_i s x T0 Tx h1 h2
        exact xappend_sound hF T S ho hc (by rw [← h1]) (by rw [← h2]) hq hs
      · cases hq
    · cases hq
  · cases hq
end
end Go.Sx
