/- '==' at types of integers: arrays and structs of them. -/
import Derived.Test.YtpghmnpbfaichaaSx17
import Derived.Laws.StructEq
namespace Go.Sx
open Go.RowKit

theorem mkInts_append : ∀ (k1 : List IntKind) (x1 : List Int) (k2 : List IntKind) (x2 : List Int), x1.length = k1.length → mkInts (k1 ++ k2) (x1 ++ x2) = mkInts k1 x1 ++ mkInts k2 x2
  | [], [], k2, x2, _ => rfl
  | k :: ks, x :: xs, k2, x2, h => by simp [mkInts, mkInts_append ks xs k2 x2 (by simpa using h)]
  | [], _ :: _, k2, x2, h => by simp at h
  | _ :: _, [], k2, x2, h => by simp at h
theorem mkInts_length : ∀ (ks : List IntKind) (xs : List Int), xs.length = ks.length → (mkInts ks xs).length = ks.length
  | [], [], _ => rfl
  | k :: ks, x :: xs, h => by simp [mkInts, mkInts_length ks xs (by simpa using h)]
  | [], _ :: _, h => by simp at h
  | _ :: _, [], h => by simp at h

def mkT (ag : Bool) (ks : List IntKind) (xs : List Int) : Value := if ag then .agg (mkInts ks xs).toArray else (mkInts ks xs).headD undef

structure EqT (P : Program) (d : Nat) (t : TypeId) (ag : Bool) (ks : List IntKind) : Prop where
  agg : aggB P t = some ag
  size : tsize P t = some ks.length
  one : ag = false → ks.length = 1
  eq : ∀ D (xs ys : List Int) (w : World), d ≤ D → xs.length = ks.length → ys.length = ks.length → (Op.equalIn D t (mkT ag ks xs) (mkT ag ks ys)).run P w = .ok (decide (xs = ys)) w

section
variable {P : Program}
theorem EqT.prt {d : Nat} {t : TypeId} {ag : Bool} {ks : List IntKind} (h : EqT P d t ag ks) (k1 : List IntKind) (x1 : List Int) (k2 : List IntKind) (x2 xs : List Int) (h1 : x1.length = k1.length) (hx : xs.length = ks.length) (w : World) :
    (Go.part t (mkInts (k1 ++ (ks ++ k2)) (x1 ++ (xs ++ x2))).toArray k1.length).run P w = .ok (mkT ag ks xs) w := by
  have hl1 := mkInts_length k1 x1 h1
  have hl2 := mkInts_length ks xs hx
  rw [mkInts_append k1 x1 _ _ h1, mkInts_append ks xs _ _ hx]
  cases ag with
  | true =>
    simp only [Go.part, Sem.run_bind, aggB_run h.agg, Result.andThen_ok, tsize_run h.size, Sem.run_ite, if_true, Sem.run_pure, mkT]
    congr 2
    have e1 : k1.length = (mkInts k1 x1).length := hl1.symm
    have e2 : ks.length = (mkInts ks xs).length := hl2.symm
    simp only [List.extract_toArray, List.extract_eq_take_drop, Nat.add_sub_cancel_left]
    congr 1
    rw [e1, List.drop_left, e2, List.take_left]
  | false =>
    have h1c := h.one rfl
    have hpos : (mkInts ks xs).length = 1 := by rw [hl2, h1c]
    match hm : mkInts ks xs, hpos with
    | [v], _ =>
      have : (mkInts k1 x1 ++ ([v] ++ mkInts k2 x2)).toArray[k1.length]? = some v := by
        simp [hl1]
      simp only [Go.part, Sem.run_bind, aggB_run h.agg, Result.andThen_ok, Bool.false_eq_true, if_false, this, mkT, hm]
      rfl

theorem EqT.int {t : TypeId} {k : IntKind} (hu : P.underlying t = some (.int k)) (hs : tsize P t = some 1) : EqT P 1 t false [k] where
  agg := by simp [aggB, hu]
  size := hs
  one := fun _ => rfl
  eq := by
    intro D xs ys w hD hx hy
    match xs, ys, hx, hy with
    | [x], [y], _, _ =>
      obtain ⟨D', rfl⟩ : ∃ D', D = D' + 1 := ⟨D - 1, by omega⟩
      simp only [mkT, mkInts, Bool.false_eq_true, if_false, List.headD_cons]
      rw [run_equalIn_int w D' t k k x y hu]
      congr 1
      by_cases hxy : x = y
      · simp [hxy]
      · simp [hxy]

def eqArr (d : Nat) (el : TypeId) (n : Nat) (xs ys : Array Value) : List Nat → Sem Bool
  | [] => pure true
  | i :: r => do
    let a ← part el xs (i * n)
    let b ← part el ys (i * n)
    let q ← Op.equalIn d el a b
    if (!q) = true then pure false else eqArr d el n xs ys r
theorem run_equalIn_array (d : Nat) (t el : TypeId) (len n : Nat) (xs ys : Array Value) (w : World) (hu : P.underlying t = some (.array len el)) (hn : tsize P el = some n) :
    (Op.equalIn (d + 1) t (.agg xs) (.agg ys)).run P w = (eqArr d el n xs ys (List.range' 0 len)).run P w := by
  simp only [Op.equalIn, Sem.run_bind, run_underlying hu, Result.andThen_ok, tsize_run hn]
  rw [Std.Legacy.Range.forIn_eq_forIn_range']
  have : ([0:len] : Std.Legacy.Range).size = len := by simp [Std.Legacy.Range.size]
  simp only [this]
  generalize List.range' 0 len = fs
  induction fs generalizing w with
  | nil => simp [eqArr]
  | cons f fs ih =>
    simp only [List.forIn_cons, eqArr, Sem.run_bind, Sem.run_ite]
    generalize (part el xs (f * n)).run P w = r1
    cases r1 with
    | ok a w1 =>
      simp only [Result.andThen_ok]
      generalize (part el ys (f * n)).run P w1 = r2
      cases r2 with
      | ok b w2 =>
        simp only [Result.andThen_ok]
        generalize (Op.equalIn d el a b).run P w2 = r3
        cases r3 with
        | ok r w3 =>
          cases r
          · simp only [Result.andThen_ok, Bool.not_false, if_true, Sem.run_pure]
          · simp only [Result.andThen_ok, Bool.not_true, Bool.false_eq_true, if_false, Sem.run_pure]
            exact ih w3
        | halt x w3 => simp [Result.andThen]
      | halt x w2 => simp [Result.andThen]
    | halt x w1 => simp [Result.andThen]

def rep {α : Type} (len : Nat) (ks : List α) : List α := (List.replicate len ks).flatten
theorem rep_succ {α : Type} (len : Nat) (ks : List α) : rep (len + 1) ks = ks ++ rep len ks := by simp [rep, List.replicate_succ]
theorem rep_length {α : Type} (len : Nat) (ks : List α) : (rep len ks).length = len * ks.length := by simp [rep]

theorem eqArr_run {d D : Nat} {el : TypeId} {ag : Bool} {ks : List IntKind} (h : EqT P d el ag ks) (hD : d ≤ D) : ∀ (len : Nat) (i : Nat) (k1 : List IntKind) (x1 y1 xs ys : List Int) (w : World),
    x1.length = k1.length → y1.length = k1.length → k1.length = i * ks.length → xs.length = len * ks.length → ys.length = len * ks.length →
    (eqArr D el ks.length (mkInts (k1 ++ rep len ks) (x1 ++ xs)).toArray (mkInts (k1 ++ rep len ks) (y1 ++ ys)).toArray (List.range' i len)).run P w = .ok (decide (xs = ys)) w
  | 0, i, k1, x1, y1, xs, ys, w, h1, h2, h3, h4, h5 => by
    have e1 : xs = [] := List.eq_nil_of_length_eq_zero (by simpa using h4)
    have e2 : ys = [] := List.eq_nil_of_length_eq_zero (by simpa using h5)
    subst e1
    subst e2
    simp [eqArr]
  | len + 1, i, k1, x1, y1, xs, ys, w, h1, h2, h3, h4, h5 => by
    have hle : ks.length ≤ xs.length := by rw [h4, Nat.add_mul]; omega
    have hle2 : ks.length ≤ ys.length := by rw [h5, Nat.add_mul]; omega
    obtain ⟨xa, xb, rfl, hxa⟩ : ∃ xa xb, xs = xa ++ xb ∧ xa.length = ks.length := ⟨xs.take ks.length, xs.drop ks.length, (List.take_append_drop _ _).symm, by simp [hle]⟩
    obtain ⟨ya, yb, rfl, hya⟩ : ∃ ya yb, ys = ya ++ yb ∧ ya.length = ks.length := ⟨ys.take ks.length, ys.drop ks.length, (List.take_append_drop _ _).symm, by simp [hle2]⟩
    rw [rep_succ, List.range'_succ]
    simp only [eqArr, Sem.run_bind, ← h3]
    rw [h.prt k1 x1 (rep len ks) xb xa h1 hxa w, Result.andThen_ok, h.prt k1 y1 (rep len ks) yb ya h2 hya w, Result.andThen_ok, h.eq D xa ya w hD hxa hya, Result.andThen_ok]
    by_cases he : xa = ya
    · subst he
      simp only [decide_true, Bool.not_true, Bool.false_eq_true, if_false]
      have := eqArr_run h hD len (i + 1) (k1 ++ ks) (x1 ++ xa) (y1 ++ xa) xb yb w (by simp [h1, hxa]) (by simp [h2, hxa]) (by simp [h3, Nat.add_mul]) (by simp [Nat.add_mul, hxa] at h4; omega) (by simp [Nat.add_mul, hxa] at h5; omega)
      simp only [List.append_assoc] at this
      rw [this]
      simp
    · have hne : ¬ (xa ++ xb = ya ++ yb) := fun hh => he ((List.append_inj hh (by rw [hxa, hya])).1)
      simp [he, hne]

theorem EqT.array {d : Nat} {t el : TypeId} {ag : Bool} {ks : List IntKind} {len : Nat} (h : EqT P d el ag ks) (hu : P.underlying t = some (.array len el)) (hs : tsize P t = some (rep len ks).length) : EqT P (d + 1) t true (rep len ks) where
  agg := by simp [aggB, hu]
  size := hs
  one := fun hh => by cases hh
  eq := by
    intro D xs ys w hD hx hy
    obtain ⟨D', rfl⟩ : ∃ D', D = D' + 1 := ⟨D - 1, by omega⟩
    simp only [mkT, if_true]
    rw [run_equalIn_array D' t el len ks.length _ _ w hu h.size]
    rw [rep_length] at hx hy
    exact eqArr_run h (by omega) len 0 [] [] [] xs ys w rfl rfl (by simp) hx hy

/-- A struct's fields: each a type of integers, one behind the other. -/
inductive EqFs (P : Program) (d : Nat) : Nat → List Field → List IntKind → Prop where
  | nil (off : Nat) : EqFs P d off [] []
  | cons {off : Nat} {f : Field} {fs : List Field} {ag : Bool} {ks kr : List IntKind} (h : EqT P d f.type ag ks) (ho : f.offset = off) (hn : f.name ≠ "_") (r : EqFs P d (off + ks.length) fs kr) : EqFs P d off (f :: fs) (ks ++ kr)
theorem eqFields_run {d D : Nat} (hD : d ≤ D) {off : Nat} {fs : List Field} {kr : List IntKind} (h : EqFs P d off fs kr) : ∀ (k1 : List IntKind) (x1 y1 xs ys : List Int) (w : World), off = k1.length → x1.length = k1.length → y1.length = k1.length → xs.length = kr.length → ys.length = kr.length →
    (Op.eqFields D (mkInts (k1 ++ kr) (x1 ++ xs)).toArray (mkInts (k1 ++ kr) (y1 ++ ys)).toArray fs).run P w = .ok (decide (xs = ys)) w := by
  induction h with
  | nil off =>
    intro k1 x1 y1 xs ys w _ h1 h2 h4 h5
    have e1 : xs = [] := List.eq_nil_of_length_eq_zero (by simpa using h4)
    have e2 : ys = [] := List.eq_nil_of_length_eq_zero (by simpa using h5)
    subst e1
    subst e2
    simp [Op.eqFields]
  | @cons off f fs ag ks kr h ho hn r ih =>
    intro k1 x1 y1 xs ys w hoff h1 h2 h4 h5
    have hle : ks.length ≤ xs.length := by rw [h4]; simp
    have hle2 : ks.length ≤ ys.length := by rw [h5]; simp
    obtain ⟨xa, xb, rfl, hxa⟩ : ∃ xa xb, xs = xa ++ xb ∧ xa.length = ks.length := ⟨xs.take ks.length, xs.drop ks.length, (List.take_append_drop _ _).symm, by simp [hle]⟩
    obtain ⟨ya, yb, rfl, hya⟩ : ∃ ya yb, ys = ya ++ yb ∧ ya.length = ks.length := ⟨ys.take ks.length, ys.drop ks.length, (List.take_append_drop _ _).symm, by simp [hle2]⟩
    simp only [Op.eqFields, Sem.run_ite, hn, ne_eq, not_false_eq_true, if_true, Sem.run_bind]
    rw [ho, hoff, h.prt k1 x1 kr xb xa h1 hxa w, Result.andThen_ok, h.prt k1 y1 kr yb ya h2 hya w, Result.andThen_ok, h.eq D xa ya w hD hxa hya, Result.andThen_ok]
    by_cases he : xa = ya
    · subst he
      simp only [decide_true, Bool.not_true, Bool.false_eq_true, if_false]
      have := ih (k1 ++ ks) (x1 ++ xa) (y1 ++ xa) xb yb w (by simp [hoff]) (by simp [h1, hxa]) (by simp [h2, hxa]) (by simp [hxa] at h4; omega) (by simp [hxa] at h5; omega)
      simp only [List.append_assoc] at this
      rw [this]
      simp
    · have hne : ¬ (xa ++ xb = ya ++ yb) := fun hh => he ((List.append_inj hh (by rw [hxa, hya])).1)
      simp [he, hne]
theorem EqT.struct {d : Nat} {t : TypeId} {kr : List IntKind} (h : EqFs P d 0 (P.fieldsOf t).toList kr) (hu : P.underlying t = some (.struct (P.fieldsOf t))) (hp : P.stoodInHeld t = false) (hs : tsize P t = some kr.length) : EqT P (d + 1) t true kr where
  agg := by simp [aggB, hu]
  size := hs
  one := fun hh => by cases hh
  eq := by
    intro D xs ys w hD hx hy
    obtain ⟨D', rfl⟩ : ∃ D', D = D' + 1 := ⟨D - 1, by omega⟩
    simp only [mkT, if_true]
    rw [run_equalIn_struct w D' t _ _ hu hp]
    exact eqFields_run (by omega) h [] [] [] xs ys w rfl rfl rfl hx hy

/-- What the reckoner is to know of '=='. -/
theorem EqT.ok {d : Nat} {t : TypeId} {ks : List IntKind} (h : EqT P d t true ks) (hd : d ≤ 10000) (hg : P.eqGuardType P.depth t = false) (xs ys : List Int) (x y : Operand) (w : World) (hx : xs.length = ks.length) (hy : ys.length = ks.length) :
    (do eqGuard .eql t x y (.agg (mkInts ks xs).toArray) (.agg (mkInts ks ys).toArray); binOp .eql t (.agg (mkInts ks xs).toArray) (.agg (mkInts ks ys).toArray)).run P w = .ok (.bool (decide (xs = ys))) w ∧
    (do eqGuard .neq t x y (.agg (mkInts ks xs).toArray) (.agg (mkInts ks ys).toArray); binOp .neq t (.agg (mkInts ks xs).toArray) (.agg (mkInts ks ys).toArray)).run P w = .ok (.bool (!decide (xs = ys))) w := by
  have he := h.eq 10000 xs ys w hd hx hy
  simp only [mkT, if_true] at he
  constructor
  · rw [Sem.run_bind, run_eqGuard_agg w _ t x y _ _ hg, Result.andThen_ok, run_eql_struct, he]
    rfl
  · rw [Sem.run_bind, run_eqGuard_agg w _ t x y _ _ hg, Result.andThen_ok, run_neq_struct, he]
    rfl
end
end Go.Sx
