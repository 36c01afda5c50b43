/- What an operation that writes nothing comes to, reckoned, and that it is so. -/
import Derived.Test.YtpghmnpbfaichaaSx1
namespace Go.Sx
open Go.RowKit

abbrev Side := Mem → Prop
def hold (F : Mem → Prop) (l : List Side) : Prop := ∀ s ∈ l, ∀ M, F M → s M
inductive Dec where
  | t
  | f
  | ld (s : SV)
  | lo (i : Nat) (s : SV)
  | lx (vs : List Value)
  | as (t : Nat) (s : SV)
  | ab (d : Go.Pl.AD)

def lk : List (Nat × SV) → Nat → Option SV
  | [], _ => none
  | (k, s) :: r, t => bif Nat.beq k t then some s else lk r t
def del : List (Nat × SV) → Nat → List (Nat × SV)
  | [], _ => []
  | (k, s) :: r, t => bif Nat.beq k t then del r t else (k, s) :: del r t
def evO (tm : List (Nat × SV)) : Operand → Option SV
  | .tmp t => lk tm t
  | .const v => some (.v v)
  | .global g => some (.v (.pointer (some ⟨g, 0, none⟩)))
  | .func f => some (.fn (.func f) [] [])

theorem lk_del_same (tm : List (Nat × SV)) (t : Nat) : lk (del tm t) t = none := by
  induction tm with
  | nil => rfl
  | cons x r ih =>
    obtain ⟨k, s⟩ := x
    simp only [del]
    cases h : Nat.beq k t with
    | true => simpa using ih
    | false => simp [lk, h, ih]
theorem lk_del_ne (tm : List (Nat × SV)) (t u : Nat) (hne : t ≠ u) : lk (del tm t) u = lk tm u := by
  induction tm with
  | nil => rfl
  | cons x r ih =>
    obtain ⟨k, s⟩ := x
    simp only [del, lk]
    cases h : Nat.beq k t with
    | true =>
      have hk : k = t := Nat.eq_of_beq_eq_true h
      have : Nat.beq k u = false := by
        cases hb : Nat.beq k u with
        | false => rfl
        | true => exact absurd (hk.symm.trans (Nat.eq_of_beq_eq_true hb)) hne
      simp [this, ih]
    | false => simp [lk, ih]

structure TSat (n hl : Nat) (tm : List (Nat × SV)) (e : Env) (a : Act) : Prop where
  size : a.tmps.size = n
  defers : a.defers = []
  get : ∀ t s, lk tm t = some s → a.tmps[t]? = some (den e s)
  wsc : ∀ t s, lk tm t = some s → ws hl s

theorem evO_sound {n hl : Nat} {tm : List (Nat × SV)} {e : Env} {a : Act} (T : TSat n hl tm e a) {x : Operand} {s : SV} (h : evO tm x = some s) : a.eval x = den e s ∧ ws hl s := by
  cases x with
  | tmp t =>
    have := T.get t s h
    exact ⟨by simp [Act.eval, this], T.wsc t s h⟩
  | const v => simp only [evO, Option.some.injEq] at h; subst h; exact ⟨rfl, trivial⟩
  | global g => simp only [evO, Option.some.injEq] at h; subst h; exact ⟨rfl, trivial⟩
  | func f => simp only [evO, Option.some.injEq] at h; subst h; exact ⟨rfl, ⟨trivial, trivial⟩⟩

theorem TSat.put {n hl hl' : Nat} {tm : List (Nat × SV)} {e e' : Env} {a : Act} (T : TSat n hl tm e a) (hag : agree hl e e') (hle : hl ≤ hl') (d : Nat) (hd : d < n) (s : SV) (v : Value) (hv : den e' s = v) (hw : ws hl' s) :
    TSat n hl' ((d, s) :: del tm d) e' (a.put (some d) v) := by
  subst hv
  refine ⟨by simp [Act.put, T.size], T.defers, ?_, ?_⟩
  · intro t u hu
    simp only [lk] at hu
    cases hb : Nat.beq d t with
    | true =>
      have : d = t := Nat.eq_of_beq_eq_true hb
      subst this
      simp only [hb, cond_true, Option.some.injEq] at hu
      subst hu
      simp [Act.put, T.size, hd]
    | false =>
      have hne : d ≠ t := fun h => by subst h; simp at hb
      simp only [hb, cond_false] at hu
      rw [lk_del_ne tm d t hne] at hu
      have := T.get t u hu
      rw [den_agree hag u (T.wsc t u hu)]
      simpa [Act.put, Array.getElem?_setIfInBounds_ne hne] using this
  · intro t u hu
    simp only [lk] at hu
    cases hb : Nat.beq d t with
    | true => simp only [hb, cond_true, Option.some.injEq] at hu; subst hu; exact hw
    | false =>
      have hne : d ≠ t := fun h => by subst h; simp at hb
      simp only [hb, cond_false] at hu
      rw [lk_del_ne tm d t hne] at hu
      exact ws_mono hle u (T.wsc t u hu)
theorem TSat.move {n hl hl' : Nat} {tm : List (Nat × SV)} {e e' : Env} {a : Act} (T : TSat n hl tm e a) (hag : agree hl e e') (hle : hl ≤ hl') : TSat n hl' tm e' a :=
  ⟨T.size, T.defers, fun t s h => by rw [den_agree hag s (T.wsc t s h)]; exact T.get t s h, fun t s h => ws_mono hle s (T.wsc t s h)⟩
theorem TSat.sub {n hl : Nat} {tm tm' : List (Nat × SV)} {e : Env} {a : Act} (T : TSat n hl tm e a) (h : ∀ t s, lk tm' t = some s → lk tm t = some s) : TSat n hl tm' e a :=
  ⟨T.size, T.defers, fun t s hs => T.get t s (h t s hs), fun t s hs => T.wsc t s (h t s hs)⟩

theorem TSat.sub' {n hl : Nat} {tm tm' : List (Nat × SV)} {e : Env} {a : Act} (T : TSat n hl tm e a) (h : ∀ t s, lk tm' t = some s → ∃ s', lk tm t = some s' ∧ den e s' = den e s ∧ ws hl s) : TSat n hl tm' e a :=
  ⟨T.size, T.defers, fun t s hs => by
    obtain ⟨s', h1, h2, _⟩ := h t s hs
    rw [← h2]
    exact T.get t s' h1, fun t s hs => by
    obtain ⟨s', h1, h2, h3⟩ := h t s hs
    exact h3⟩

/-! ### plain values -/
mutual
def plain : SV → Option Value
  | .v x => some x
  | .bl b => some (.bool b)
  | .agg cs => match plainL cs with | some l => some (.agg l.toArray) | none => none
  | .tup cs => match plainL cs with | some l => some (.tuple l.toArray) | none => none
  | .fn f a c => match plainL a, plainL c with | some x, some y => some (.func f x.toArray y.toArray) | _, _ => none
  | .ifc t y => match plain y with | some x => some (.iface t x) | none => none
  | _ => none
def plainL : List SV → Option (List Value)
  | [] => some []
  | x :: r => match plain x, plainL r with | some a, some l => some (a :: l) | _, _ => none
end
mutual
theorem plain_sound (e : Env) : ∀ (s : SV) {x : Value}, plain s = some x → den e s = x
  | .v y, x, h => by simpa [plain, den] using h
  | .bl b, x, h => by simpa [plain, den] using h
  | .agg cs, x, h => by
    simp only [plain] at h
    split at h
    · rename_i l hl
      simp only [Option.some.injEq] at h
      simp only [den, plainL_sound e cs hl, h]
    · cases h
  | .tup cs, x, h => by
    simp only [plain] at h
    split at h
    · rename_i l hl
      simp only [Option.some.injEq] at h
      simp only [den, plainL_sound e cs hl, h]
    · cases h
  | .fn f a c, x, h => by
    simp only [plain] at h
    split at h
    · rename_i l1 l2 h1 h2
      simp only [Option.some.injEq] at h
      simp only [den, plainL_sound e a h1, plainL_sound e c h2, h]
    · cases h
  | .ifc t y, x, h => by
    simp only [plain] at h
    split at h
    · rename_i l hl
      simp only [Option.some.injEq] at h
      simp only [den, plain_sound e y hl, h]
    · cases h
  | .p _ _, x, h => by cases h
  | .o _, x, h => by cases h
  | .q _ _, x, h => by cases h
  | .m _, x, h => by cases h
  | .sl _ _ _ _, x, h => by cases h
theorem plainL_sound (e : Env) : ∀ (l : List SV) {x : List Value}, plainL l = some x → denL e l = x
  | [], x, h => by simpa [plainL, denL] using h
  | s :: r, x, h => by
    simp only [plainL] at h
    split at h
    · rename_i a l h1 h2
      simp only [Option.some.injEq] at h
      simp only [denL, plain_sound e s h1, plainL_sound e r h2, h]
    · cases h
end

/-- A reckoning that neither reads nor writes memory nor asks. -/
def prun {α : Type} (P : Program) : Sem α → Option α
  | .pure a => some a
  | .program k => prun P (k P)
  | .mark _ k => prun P k
  | _ => none
theorem prun_sound {α : Type} {P : Program} {s : Sem α} {a : α} (h : prun P s = some a) (w : World) : s.run P w = .ok a w := by
  induction s with
  | pure x => simpa [prun, Sem.run] using h
  | program k ih => exact ih P (by simpa [prun] using h)
  | mark m k ih => exact ih (by simpa [prun] using h)
  | _ => simp [prun] at h

/-! ### types -/
def aggB (P : Program) (t : TypeId) : Option Bool :=
  match P.underlying t with
  | some (.struct _) => some true
  | some (.array _ _) => some true
  | some _ => some false
  | none => none
theorem aggB_run {P : Program} {t : TypeId} {b : Bool} (h : aggB P t = some b) (w : World) : (isAgg t).run P w = .ok b w := by
  unfold aggB at h
  cases hu : P.underlying t with
  | none => simp [hu] at h
  | some d =>
    unfold isAgg
    rw [Sem.run_bind, run_underlying hu w]
    rw [hu] at h
    cases d <;> simp at h <;> subst h <;> rfl
def tsize (P : Program) (t : TypeId) : Option Nat :=
  match P.info? t with
  | some i => some i.size
  | none => none
theorem tsize_run {P : Program} {t : TypeId} {n : Nat} (h : tsize P t = some n) (w : World) : (sizeOf t).run P w = .ok n w := by
  unfold tsize at h
  cases hu : P.info? t with
  | none => simp [hu] at h
  | some d =>
    simp only [hu, Option.some.injEq] at h
    subst h
    simp [sizeOf, typeInfo, hu]

/-! ### loads -/
structure SatQ (F : Mem → Prop) (h : List HO) (e : Env) (w : World) : Prop where
  sat : ∀ (i : Nat) (ho : HO), h[i]? = some ho → ho.sat e i w
  fact : F (mem w e h)
theorem SatH.q {F : Mem → Prop} {w0 : World} {h : List HO} {e : Env} {w : World} (S : SatH F w0 h e w) : SatQ F h e w := ⟨S.sat, S.fact⟩

def Mem.cell? (M : Mem) (a : Addr) : Option Value :=
  match M a.block with
  | some (.cells c _ _) => if a.spot.isSome then none else c[a.off]?
  | _ => none
theorem cell_of_mem {M : Mem} {w : World} (hle : M.le (wmem w)) {a : Addr} {v : Value} (h : M.cell? a = some v) : w.cell? a = some v := by
  unfold Mem.cell? at h
  cases hM : M a.block with
  | none => simp [hM] at h
  | some o =>
    have hw : w.heap[a.block]? = some o := hle _ _ hM
    rw [hM] at h
    unfold World.cell?
    rw [hw]
    exact h
/-- The values that lie from an address on. -/
def MCells (M : Mem) (oa : Option Addr) (vs : List Value) : Prop := ∃ ad, oa = some ad ∧ ∀ j v, vs[j]? = some v → M.cell? (ad.add j) = some v

/-- A slice of so many elements, whose cells are known. -/
def reads (M : Mem) (n : Nat) (cs : List Value) (v : Value) : Prop := ∃ oa cap, v = .slice oa n cap ∧ (cs = [] ∨ MCells M oa cs)
theorem MCells.mono {M M' : Mem} (h : M.le M') {oa : Option Addr} {vs : List Value} (k : MCells M oa vs) : MCells M' oa vs := by
  obtain ⟨ad, h1, h2⟩ := k
  refine ⟨ad, h1, fun j v hv => ?_⟩
  have := h2 j v hv
  unfold Mem.cell? at this ⊢
  cases hM : M (ad.add j).block with
  | none => rw [hM] at this; cases this
  | some o => rw [hM] at this; rw [h _ _ hM]; exact this
theorem reads.mono {M M' : Mem} (h : M.le M') {n : Nat} {cs : List Value} {v : Value} (k : reads M n cs v) : reads M' n cs v := by
  obtain ⟨oa, cap, h1, h2⟩ := k
  exact ⟨oa, cap, h1, h2.imp id (MCells.mono h)⟩
/-- The cells of lookups. -/
def lksAt (M : Mem) : List Value → List (List Int × List Int) → Prop
  | [], [] => True
  | x :: y :: r, (a, b) :: t => reads M a.length (Go.Pl.intsC a) x ∧ reads M b.length (Go.Pl.intsC b) y ∧ lksAt M r t
  | _, _ => False
theorem lksAt.mono {M M' : Mem} (h : M.le M') : ∀ {cs : List Value} {l : List (List Int × List Int)}, lksAt M cs l → lksAt M' cs l
  | [], [], _ => trivial
  | _ :: _ :: _, (_, _) :: _, ⟨h1, h2, h3⟩ => ⟨h1.mono h, h2.mono h, lksAt.mono h h3⟩
/-- The cells of a circuit, and what they stand for. -/
def circAt (M : Mem) (c : Go.Pl.CD) (v1 v2 v3 v4 : Value) : Prop :=
  reads M c.nodes.length (Go.Pl.nodesC c.nodes) v1 ∧ reads M c.gates.length (Go.Pl.intsC c.gates) v2 ∧ (∃ lc, reads M c.lks.length lc v3 ∧ lksAt M lc c.lks) ∧ reads M c.eqs.length (Go.Pl.eqsC c.eqs) v4
theorem circAt.mono {M M' : Mem} (h : M.le M') {c : Go.Pl.CD} {v1 v2 v3 v4 : Value} : circAt M c v1 v2 v3 v4 → circAt M' c v1 v2 v3 v4
  | ⟨h1, h2, ⟨lc, h3, h4⟩, h5⟩ => ⟨h1.mono h, h2.mono h, ⟨lc, h3.mono h, h4.mono h⟩, h5.mono h⟩
def adAt (M : Mem) (x : Value) : Go.Pl.AD → Prop
  | .circ c => ∃ v1 v2 v3 v4, x = .agg #[.int .i64 c.f, .int .i64 c.a, .int .i64 c.i, v1, v2, v3, v4] ∧ circAt M c v1 v2 v3 v4
  | .chk c d => ∃ v1 v2 v3 v4 v5, x = .agg #[.int .i64 c.f, .int .i64 c.a, .int .i64 c.i, v1, v2, v3, v4, v5] ∧ circAt M c v1 v2 v3 v4 ∧ reads M d.length (Go.Pl.intsC d) v5
theorem adAt.mono {M M' : Mem} (h : M.le M') {x : Value} : ∀ {d : Go.Pl.AD}, adAt M x d → adAt M' x d
  | .circ _, ⟨v1, v2, v3, v4, e, k⟩ => ⟨v1, v2, v3, v4, e, k.mono h⟩
  | .chk _ _, ⟨v1, v2, v3, v4, v5, e, k, r⟩ => ⟨v1, v2, v3, v4, v5, e, k.mono h, r.mono h⟩

theorem loadVar_agg {P : Program} {t : TypeId} {w : World} {ad : Addr} {vs : List Value} (ha : aggB P t = some true) (hn : tsize P t = some vs.length)
    (h : ∀ j v, vs[j]? = some v → w.cell? (ad.add j) = some v) : (loadVar t ad).run P w = .ok (.agg vs.toArray) w := by
  simp [loadVar, aggB_run ha w, tsize_run hn w, run_loadCells_list w ad vs h]
theorem loadVar_one {P : Program} {t : TypeId} {w : World} {ad : Addr} {v : Value} (ha : aggB P t = some false)
    (h : w.cell? ad = some v) : (loadVar t ad).run P w = .ok v w := by
  simp [loadVar, aggB_run ha w, h]

def ownLoad (P : Program) (t : TypeId) (k : Nat) (cs : List SV) (off : Nat) (D : List Dec) : Option (SV × List Side × List Dec) :=
  match aggB P t, tsize P t with
  | some true, some n =>
    match D with
    | .lo k' (.agg ss) :: D' =>
      bif Nat.beq k k' then (bif Nat.beq ss.length n then some (.agg ss, [fun _ => (cs.drop off).take n = ss], D') else none)
      else (bif Nat.beq ((cs.drop off).take n).length n then some (.agg ((cs.drop off).take n), [], D) else none)
    | _ => bif Nat.beq ((cs.drop off).take n).length n then some (.agg ((cs.drop off).take n), [], D) else none
  | some false, _ =>
    match D with
    | .lo k' s :: D' =>
      bif Nat.beq k k' then some (s, [fun _ => cs[off]? = some s], D')
      else match cs[off]? with | some s => some (s, [], D) | none => none
    | _ => match cs[off]? with | some s => some (s, [], D) | none => none
  | _, _ => none

theorem ownLoad_sound {P : Program} {t : TypeId} {k : Nat} {cs : List SV} {off : Nat} {D D' : List Dec} {s : SV} {sd : List Side} {M : Mem}
    (h : ownLoad P t k cs off D = some (s, sd, D')) (hsd : ∀ x ∈ sd, x M) {w : World} {e : Env} {g : Nat}
    (hc : ∀ j v, (denL e cs)[j]? = some v → w.cell? ⟨g, j, none⟩ = some v) {hl : Nat} (hw : wsL hl cs) :
    (loadVar t ⟨g, off, none⟩).run P w = .ok (den e s) w ∧ ws hl s := by
  rw [wsL_iff] at hw
  have aggCase : ∀ (n : Nat), aggB P t = some true → tsize P t = some n → ((cs.drop off).take n).length = n →
      (loadVar t ⟨g, off, none⟩).run P w = .ok (den e (.agg ((cs.drop off).take n))) w ∧ ws hl (.agg ((cs.drop off).take n)) := by
    intro n ha hn hlen
    constructor
    · simp only [den]
      refine loadVar_agg ha (by rw [hn, denL_length, hlen]) ?_
      intro j v hv
      have hadd : (⟨g, off, none⟩ : Addr).add j = ⟨g, off + j, none⟩ := Addr.add_lit g off j
      rw [hadd]
      refine hc (off + j) v ?_
      rw [denL_map, List.getElem?_map] at hv ⊢
      rw [List.getElem?_take, List.getElem?_drop] at hv
      split at hv
      · exact hv
      · simp at hv
    · simp only [ws]
      rw [wsL_iff]
      intro x hx
      exact hw x (List.mem_of_mem_drop (List.mem_of_mem_take hx))
  have oneCase : ∀ (s : SV), aggB P t = some false → cs[off]? = some s → (loadVar t ⟨g, off, none⟩).run P w = .ok (den e s) w ∧ ws hl s := by
    intro s ha hs
    refine ⟨loadVar_one ha (hc off _ ?_), hw s (List.mem_of_getElem? hs)⟩
    rw [denL_map, List.getElem?_map, hs]
    rfl
  unfold ownLoad at h
  split at h
  · rename_i n ha hn
    split at h
    · rename_i k' ss D2
      cases hk : Nat.beq k k' with
      | true =>
        simp only [hk, cond_true] at h
        cases hl : Nat.beq ss.length n with
        | false => simp only [hl, cond_false] at h; cases h
        | true =>
          simp only [hl, cond_true, Option.some.injEq, Prod.mk.injEq] at h
          obtain ⟨rfl, rfl, rfl⟩ := h
          have hss : (cs.drop off).take n = ss := hsd _ List.mem_cons_self
          have hlen : ss.length = n := Nat.eq_of_beq_eq_true hl
          have := aggCase n ha hn (by rw [hss]; exact hlen)
          rw [hss] at this
          exact this
      | false =>
        simp only [hk, cond_false] at h
        cases hl : Nat.beq ((cs.drop off).take n).length n with
        | false => simp only [hl, cond_false] at h; cases h
        | true =>
          simp only [hl, cond_true, Option.some.injEq, Prod.mk.injEq] at h
          obtain ⟨rfl, rfl, rfl⟩ := h
          exact aggCase n ha hn (Nat.eq_of_beq_eq_true hl)
    · cases hl : Nat.beq ((cs.drop off).take n).length n with
      | false => simp only [hl, cond_false] at h; cases h
      | true =>
        simp only [hl, cond_true, Option.some.injEq, Prod.mk.injEq] at h
        obtain ⟨rfl, rfl, rfl⟩ := h
        exact aggCase n ha hn (Nat.eq_of_beq_eq_true hl)
  · rename_i ha
    split at h
    · rename_i k' s2 D2
      cases hk : Nat.beq k k' with
      | true =>
        simp only [hk, cond_true, Option.some.injEq, Prod.mk.injEq] at h
        obtain ⟨rfl, rfl, rfl⟩ := h
        exact oneCase _ ha (hsd _ List.mem_cons_self)
      | false =>
        simp only [hk, cond_false] at h
        split at h
        · rename_i s3 hs3
          simp only [Option.some.injEq, Prod.mk.injEq] at h
          obtain ⟨rfl, rfl, rfl⟩ := h
          exact oneCase _ ha hs3
        · cases h
    · split at h
      · rename_i s3 hs3
        simp only [Option.some.injEq, Prod.mk.injEq] at h
        obtain ⟨rfl, rfl, rfl⟩ := h
        exact oneCase _ ha hs3
      · cases h
  · cases h

def extLoad (P : Program) (t : TypeId) (oa : Option Addr) (D : List Dec) : Option (SV × List Side × List Dec) :=
  match aggB P t, tsize P t, D with
  | some true, some n, .ld s :: D' =>
    match s with
    | .agg ss => match plainL ss with
      | some vs => bif Nat.beq vs.length n then some (s, [fun M => MCells M oa vs], D') else none
      | none => none
    | _ => none
  | some false, _, .ld s :: D' => match plain s with
    | some v => some (s, [fun M => MCells M oa [v]], D')
    | none => none
  | _, _, _ => none

mutual
theorem plain_ws (n : Nat) : ∀ (s : SV) {x : Value}, plain s = some x → ws n s
  | .v y, x, h => trivial
  | .bl b, x, h => trivial
  | .agg cs, x, h => by
    simp only [plain] at h
    split at h
    · rename_i l hl; exact plainL_ws n cs hl
    · cases h
  | .tup cs, x, h => by
    simp only [plain] at h
    split at h
    · rename_i l hl; exact plainL_ws n cs hl
    · cases h
  | .fn f a c, x, h => by
    simp only [plain] at h
    split at h
    · rename_i l1 l2 h1 h2; exact ⟨plainL_ws n a h1, plainL_ws n c h2⟩
    · cases h
  | .ifc t y, x, h => by
    simp only [plain] at h
    split at h
    · rename_i l hl; exact plain_ws n y hl
    · cases h
  | .p _ _, x, h => by cases h
  | .o _, x, h => by cases h
  | .q _ _, x, h => by cases h
  | .m _, x, h => by cases h
  | .sl _ _ _ _, x, h => by cases h
theorem plainL_ws (n : Nat) : ∀ (l : List SV) {x : List Value}, plainL l = some x → wsL n l
  | [], x, h => trivial
  | s :: r, x, h => by
    simp only [plainL] at h
    split at h
    · rename_i a l h1 h2; exact ⟨plain_ws n s h1, plainL_ws n r h2⟩
    · cases h
end

theorem extLoad_sound {P : Program} {t : TypeId} {oa : Option Addr} {D D' : List Dec} {s : SV} {sd : List Side} {M : Mem}
    (h : extLoad P t oa D = some (s, sd, D')) (hsd : ∀ x ∈ sd, x M) {w : World} (hM : M.le (wmem w)) (e : Env) (hl : Nat) :
    (Instr.loadAt t (.pointer oa)).run P w = .ok (den e s) w ∧ ws hl s := by
  unfold extLoad at h
  split at h
  · rename_i n s1 D1 ha hn
    split at h
    · rename_i ss
      split at h
      · rename_i vs hvs
        cases hb : Nat.beq vs.length n with
        | false => simp [hb] at h
        | true =>
          simp only [hb, cond_true, Option.some.injEq, Prod.mk.injEq] at h
          obtain ⟨rfl, rfl, rfl⟩ := h
          obtain ⟨ad, rfl, hc⟩ := hsd _ List.mem_cons_self
          refine ⟨?_, plainL_ws hl ss hvs⟩
          simp only [den, plainL_sound e ss hvs, Instr.loadAt, Instr.sureAddr, Sem.run_bind, Sem.run_pure, Result.andThen_ok]
          exact loadVar_agg ha (by rw [hn, Nat.eq_of_beq_eq_true hb]) (fun j v hv => cell_of_mem hM (hc j v hv))
      · cases h
    · cases h
  · rename_i s1 D1 ha
    split at h
    · rename_i v hv
      simp only [Option.some.injEq, Prod.mk.injEq] at h
      obtain ⟨rfl, rfl, rfl⟩ := h
      obtain ⟨ad, rfl, hc⟩ := hsd _ List.mem_cons_self
      refine ⟨?_, plain_ws hl s1 hv⟩
      simp only [plain_sound e s1 hv, Instr.loadAt, Instr.sureAddr, Sem.run_bind, Sem.run_pure, Result.andThen_ok]
      have := hc 0 v rfl
      rw [Addr.add_zero'] at this
      exact loadVar_one ha (cell_of_mem hM this)
    · cases h
  · cases h
end Go.Sx
