/- The symbolic values, the environment, the heap of a function's own objects, and the one lemma by which a world's step keeps them. -/
import Derived.Test.YtpghmnpbfaichaaSx0
import Derived.Below
import Derived.OrdersHeld
import Derived.Tactics
import Derived.Laws.OwnMore
import Derived.KernelRfl
namespace Go.Sx
open Go.RowKit

inductive SV where
  | v (x : Value)
  | bl (b : Bool)
  | p (i off : Nat)
  | o (i : Nat)
  | q (i off : Nat)
  | m (i : Nat)
  | sl (i off len cap : Nat)
  | agg (cs : List SV)
  | tup (cs : List SV)
  | fn (f : Fn) (first cap : List SV)
  | ifc (t : TypeId) (y : SV)

structure Env where
  blk : Nat → Nat
  row : Nat → Value

mutual
def den (e : Env) : SV → Value
  | .v x => x
  | .bl b => .bool b
  | .p i off => .pointer (some ⟨e.blk i, off, none⟩)
  | .o i => e.row i
  | .q i off => match e.row i with | .slice (some a) _ _ => .pointer (some ⟨a.block, off, none⟩) | _ => .pointer none
  | .m i => .map (some (e.blk i))
  | .sl i off len cap => .slice (some ⟨e.blk i, off, none⟩) len cap
  | .agg cs => .agg (denL e cs).toArray
  | .tup cs => .tuple (denL e cs).toArray
  | .fn f a c => .func f (denL e a).toArray (denL e c).toArray
  | .ifc t y => .iface t (den e y)
def denL (e : Env) : List SV → List Value
  | [] => []
  | x :: r => den e x :: denL e r
end
theorem denL_map (e : Env) (l : List SV) : denL e l = l.map (den e) := by
  induction l with
  | nil => rfl
  | cons x r ih => simp [denL, ih]
theorem denL_length (e : Env) (l : List SV) : (denL e l).length = l.length := by simp [denL_map]

mutual
def ws (n : Nat) : SV → Prop
  | .v _ => True
  | .bl _ => True
  | .p i _ => i < n
  | .o i => i < n
  | .q i _ => i < n
  | .m i => i < n
  | .sl i _ _ _ => i < n
  | .agg cs => wsL n cs
  | .tup cs => wsL n cs
  | .fn _ a c => wsL n a ∧ wsL n c
  | .ifc _ y => ws n y
def wsL (n : Nat) : List SV → Prop
  | [] => True
  | x :: r => ws n x ∧ wsL n r
end
theorem wsL_iff (n : Nat) (l : List SV) : wsL n l ↔ ∀ x ∈ l, ws n x := by
  induction l with
  | nil => simp [wsL]
  | cons x r ih => simp [wsL, ih]

/-- The environments say the same of the first n objects. -/
def agree (n : Nat) (e e' : Env) : Prop := ∀ i, i < n → e'.blk i = e.blk i ∧ e'.row i = e.row i
theorem agree.refl (n : Nat) (e : Env) : agree n e e := fun _ _ => ⟨rfl, rfl⟩
theorem agree.trans {n m : Nat} {a b c : Env} (h : agree n a b) (k : agree m b c) (hnm : n ≤ m) : agree n a c :=
  fun i hi => ⟨((k i (by omega)).1).trans (h i hi).1, ((k i (by omega)).2).trans (h i hi).2⟩

mutual
theorem den_agree {n : Nat} {e e' : Env} (h : agree n e e') : ∀ (s : SV), ws n s → den e' s = den e s
  | .v _, _ => rfl
  | .bl _, _ => rfl
  | .p i off, hs => by simp only [den, (h i hs).1]
  | .o i, hs => by simp only [den, (h i hs).2]
  | .q i off, hs => by simp only [den, (h i hs).2]
  | .m i, hs => by simp only [den, (h i hs).1]
  | .sl i _ _ _, hs => by simp only [den, (h i hs).1]
  | .agg cs, hs => by simp only [den, denL_agree h cs hs]
  | .tup cs, hs => by simp only [den, denL_agree h cs hs]
  | .fn f a c, hs => by simp only [den, denL_agree h a hs.1, denL_agree h c hs.2]
  | .ifc t y, hs => by simp only [den, den_agree h y hs]
theorem denL_agree {n : Nat} {e e' : Env} (h : agree n e e') : ∀ (l : List SV), wsL n l → denL e' l = denL e l
  | [], _ => rfl
  | x :: r, hs => by simp only [denL, den_agree h x hs.1, denL_agree h r hs.2]
end
mutual
theorem ws_mono {n m : Nat} (h : n ≤ m) : ∀ (s : SV), ws n s → ws m s
  | .v _, _ => trivial
  | .bl _, _ => trivial
  | .p _ _, hs => Nat.lt_of_lt_of_le hs h
  | .o _, hs => Nat.lt_of_lt_of_le hs h
  | .q _ _, hs => Nat.lt_of_lt_of_le hs h
  | .m _, hs => Nat.lt_of_lt_of_le hs h
  | .sl _ _ _ _, hs => Nat.lt_of_lt_of_le hs h
  | .agg cs, hs => wsL_mono h cs hs
  | .tup cs, hs => wsL_mono h cs hs
  | .fn _ a c, hs => ⟨wsL_mono h a hs.1, wsL_mono h c hs.2⟩
  | .ifc _ y, hs => ws_mono h y hs
theorem wsL_mono {n m : Nat} (h : n ≤ m) : ∀ (l : List SV), wsL n l → wsL m l
  | [], _ => trivial
  | x :: r, hs => ⟨ws_mono h x hs.1, wsL_mono h r hs.2⟩
end

/-- An object of the function's own. -/
inductive HO where
  | cells (cs : List SV) (T : TypeId)
  | row (T : TypeId) (size n : Nat) (xs : List SV)
  | obj (o : Obj)
  | gone

def HO.ws (n : Nat) : HO → Prop
  | .cells cs _ => wsL n cs
  | .row _ _ _ xs => wsL n xs
  | _ => True
theorem HO.ws_mono {n m : Nat} (h : n ≤ m) : ∀ {ho : HO}, ho.ws n → ho.ws m
  | .cells cs _, hs => wsL_mono h cs hs
  | .row _ _ _ xs, hs => wsL_mono h xs hs
  | .obj _, _ => trivial
  | .gone, _ => trivial

def HO.own (e : Env) (i : Nat) : HO → Option Nat
  | .cells _ _ => some (e.blk i)
  | .row .. => (e.row i).ownBlock
  | .obj _ => some (e.blk i)
  | .gone => none

def isCells : Obj → Bool
  | .cells .. => true
  | _ => false

def HO.sat (e : Env) (i : Nat) (w : World) : HO → Prop
  | .cells cs T => w.heap[e.blk i]? = some (.cells (denL e cs).toArray T (0, 0))
  | .row T size n xs => w.ownsRow 0 T size (e.row i) n (denL e xs) ∧ ∀ u ∈ denL e xs, u.oneCell' = true
  | .obj o => w.heap[e.blk i]? = some o ∧ isCells o = false
  | .gone => True

/-- Memory: what lies in a block, where it is known. -/
abbrev Mem := Nat → Option Obj
def Mem.le (M M' : Mem) : Prop := ∀ b o, M b = some o → M' b = some o
theorem Mem.le.refl (M : Mem) : M.le M := fun _ _ h => h
theorem Mem.le.trans {a b c : Mem} (h : a.le b) (k : b.le c) : a.le c := fun _ _ x => k _ _ (h _ _ x)
def Mono (F : Mem → Prop) : Prop := ∀ M M', Mem.le M M' → F M → F M'

def owned (e : Env) (h : List HO) (b : Nat) : Prop := ∃ (i : Nat) (ho : HO), h[i]? = some ho ∧ ho.own e i = some b
open Classical in
/-- The memory beside the function's own objects. -/
noncomputable def mem (w : World) (e : Env) (h : List HO) : Mem := fun b => if owned e h b then none else w.heap[b]?
def wmem (w : World) : Mem := fun b => w.heap[b]?
theorem mem_le_wmem (w : World) (e : Env) (h : List HO) : (mem w e h).le (wmem w) := by
  intro b o hb
  unfold mem at hb
  split at hb
  · cases hb
  · exact hb

structure SatH (F : Mem → Prop) (w0 : World) (h : List HO) (e : Env) (w : World) : Prop where
  os : w.os = w0.os
  tape : w.tape = w0.tape
  output : w.output = w0.output
  sat : ∀ (i : Nat) (ho : HO), h[i]? = some ho → ho.sat e i w
  ws : ∀ (i : Nat) (ho : HO), h[i]? = some ho → ho.ws h.length
  one : ∀ (i j : Nat) (ho ho' : HO) (b : Nat), h[i]? = some ho → h[j]? = some ho' → ho.own e i = some b → ho'.own e j = some b → i = j
  fact : F (mem w e h)

theorem HO.own_lt {e : Env} {i : Nat} {w : World} {ho : HO} (hs : ho.sat e i w) {b : Nat} (hb : ho.own e i = some b) : b < w.heap.size := by
  cases ho with
  | cells cs T =>
    simp only [HO.own, Option.some.injEq] at hb
    subst hb
    exact (Array.getElem?_eq_some_iff.1 hs).1
  | row T size n xs => exact (World.ownsRow.lt hs.1 b hb).2
  | obj o =>
    simp only [HO.own, Option.some.injEq] at hb
    subst hb
    exact (Array.getElem?_eq_some_iff.1 hs.1).1
  | gone => simp [HO.own] at hb

/-- An object whose block has not turned is as it was. -/
theorem HO.sat_keep {e e' : Env} {i n : Nat} {w w' : World} {ho : HO} (hi : i < n) (hag : agree n e e') (hws : ho.ws n) (hs : ho.sat e i w)
    (hk : ∀ b, ho.own e i = some b → w'.heap[b]? = w.heap[b]?) : ho.sat e' i w' := by
  cases ho with
  | cells cs T =>
    simp only [HO.sat, denL_agree hag cs hws, (hag i hi).1]
    rw [hk _ rfl]
    exact hs
  | row T size n xs =>
    simp only [HO.sat, denL_agree hag xs hws, (hag i hi).2]
    obtain ⟨⟨h1, h2⟩, h3⟩ := hs
    refine ⟨⟨h1, ?_⟩, h3⟩
    rcases h2 with h2 | ⟨g, cap, cur, hv, hg, hh, r⟩
    · exact .inl h2
    · refine .inr ⟨g, cap, cur, hv, hg, ?_, r⟩
      rw [hk g (by simp [HO.own, hv, Value.ownBlock])]
      exact hh
  | obj o =>
    simp only [HO.sat, (hag i hi).1]
    rw [hk _ rfl]
    exact hs
  | gone => trivial
theorem HO.own_agree {e e' : Env} {i n : Nat} {ho : HO} (hi : i < n) (hag : agree n e e') : ho.own e' i = ho.own e i := by
  cases ho <;> simp [HO.own, (hag i hi).1, (hag i hi).2]

/-- ONE STEP OF A WORLD: object k is new or has turned; beta: the block that has been written (object kold's); all else stands. -/
theorem SatH.next {F : Mem → Prop} (hF : Mono F) {w0 : World} {h h' : List HO} {e e' : Env} {w w' : World} (S : SatH F w0 h e w)
    (k : Nat) (hk' : HO) (hlen : h.length ≤ h'.length) (hk : h'[k]? = some hk')
    (hag : agree h.length e e')
    (hold : ∀ i ho, i ≠ k → h'[i]? = some ho → h[i]? = some ho ∨ ho = .gone)
    (hold' : ∀ i ho, i ≠ k → h[i]? = some ho → h'[i]? = some ho ∨ h'[i]? = some .gone)
    (beta : Option Nat) (hbeta : ∀ b, beta = some b → ∃ j ho, h[j]? = some ho ∧ ho.own e j = some b ∧ (j = k ∨ h'[j]? = some .gone))
    (hkold : ∀ ho b, h[k]? = some ho → ho.own e k = some b → beta = some b ∧ hk'.own e' k = some b)
    (hsat : hk'.sat e' k w') (hws : hk'.ws h'.length)
    (hown : ∀ b, hk'.own e' k = some b → w.heap.size ≤ b ∨ beta = some b)
    (hframe : ∀ b, b < w.heap.size → beta ≠ some b → w'.heap[b]? = w.heap[b]?)
    (hos : w'.os = w.os) (htape : w'.tape = w.tape) (hout : w'.output = w.output) : SatH F w0 h' e' w' := by
  have keepSat : ∀ i ho, i ≠ k → h'[i]? = some ho → ho ≠ .gone → ho.sat e' i w' ∧ ho.own e' i = ho.own e i ∧ h[i]? = some ho := by
    intro i ho hik hi hg
    rcases hold i ho hik hi with hi0 | hi0
    · have hlt : i < h.length := (List.getElem?_eq_some_iff.1 hi0).1
      refine ⟨HO.sat_keep hlt hag (S.ws i ho hi0) (S.sat i ho hi0) (fun b hb => hframe b (HO.own_lt (S.sat i ho hi0) hb) ?_), HO.own_agree hlt hag, hi0⟩
      intro hbb
      obtain ⟨j, hoj, hj, hoj', hjk⟩ := hbeta b hbb
      have hij := S.one i j ho hoj b hi0 hj hb hoj'
      subst hij
      rcases hjk with rfl | hjk
      · exact hik rfl
      · rw [hi] at hjk
        exact hg (Option.some.inj hjk)
    · exact absurd hi0 hg
  refine ⟨hos.trans S.os, htape.trans S.tape, hout.trans S.output, ?_, ?_, ?_, ?_⟩
  · intro i ho hi
    by_cases hik : i = k
    · subst hik
      rw [hk] at hi
      cases hi
      exact hsat
    · cases ho with
      | gone => trivial
      | cells cs T => exact (keepSat i _ hik hi (by simp)).1
      | row T size n xs => exact (keepSat i _ hik hi (by simp)).1
      | obj o => exact (keepSat i _ hik hi (by simp)).1
  · intro i ho hi
    by_cases hik : i = k
    · subst hik
      rw [hk] at hi
      cases hi
      exact hws
    · rcases hold i ho hik hi with hi0 | rfl
      · exact HO.ws_mono hlen (S.ws i ho hi0)
      · trivial
  · intro i j ho ho' b hi hj hb hb'
    by_cases hik : i = k
    · by_cases hjk : j = k
      · rw [hik, hjk]
      · exfalso
        subst hik
        rw [hk] at hi
        cases hi
        have hg : ho' ≠ .gone := fun hh => by subst hh; simp [HO.own] at hb'
        obtain ⟨_, ho2, hj0⟩ := keepSat j ho' hjk hj hg
        rw [ho2] at hb'
        rcases hown b hb with hge | hbb
        · have := HO.own_lt (S.sat j ho' hj0) hb'
          omega
        · obtain ⟨j2, hoj, hj2, hoj', hor⟩ := hbeta b hbb
          have hij := S.one j j2 ho' hoj b hj0 hj2 hb' hoj'
          subst hij
          rcases hor with rfl | hor
          · exact hjk rfl
          · rw [hj] at hor
            exact hg (Option.some.inj hor)
    · by_cases hjk : j = k
      · exfalso
        subst hjk
        rw [hk] at hj
        cases hj
        have hg : ho ≠ .gone := fun hh => by subst hh; simp [HO.own] at hb
        obtain ⟨_, ho2, hi0⟩ := keepSat i ho hik hi hg
        rw [ho2] at hb
        rcases hown b hb' with hge | hbb
        · have := HO.own_lt (S.sat i ho hi0) hb
          omega
        · obtain ⟨j2, hoj, hj2, hoj', hor⟩ := hbeta b hbb
          have hij := S.one i j2 ho hoj b hi0 hj2 hb hoj'
          subst hij
          rcases hor with rfl | hor
          · exact hik rfl
          · rw [hi] at hor
            exact hg (Option.some.inj hor)
      · have hg : ho ≠ .gone := fun hh => by subst hh; simp [HO.own] at hb
        have hg' : ho' ≠ .gone := fun hh => by subst hh; simp [HO.own] at hb'
        obtain ⟨_, ho2, hi0⟩ := keepSat i ho hik hi hg
        obtain ⟨_, ho3, hj0⟩ := keepSat j ho' hjk hj hg'
        rw [ho2] at hb
        rw [ho3] at hb'
        exact S.one i j ho ho' b hi0 hj0 hb hb'
  · refine hF _ _ ?_ S.fact
    intro b o hb
    unfold mem at hb ⊢
    split at hb
    · cases hb
    · rename_i hno
      have hlt : b < w.heap.size := by
        rcases Nat.lt_or_ge b w.heap.size with hh | hh
        · exact hh
        · rw [Array.getElem?_eq_none hh] at hb; cases hb
      have hnb : beta ≠ some b := fun hbb => by
        obtain ⟨j, hoj, hj, hoj', _⟩ := hbeta b hbb
        exact hno ⟨j, hoj, hj, hoj'⟩
      have hno' : ¬ owned e' h' b := by
        rintro ⟨i, ho, hi, hb2⟩
        by_cases hik : i = k
        · subst hik
          rw [hk] at hi
          cases hi
          rcases hown b hb2 with hge | hbb
          · omega
          · exact hnb hbb
        · have hg : ho ≠ .gone := fun hh => by subst hh; simp [HO.own] at hb2
          obtain ⟨_, ho2, hi0⟩ := keepSat i ho hik hi hg
          rw [ho2] at hb2
          exact hno ⟨i, ho, hi0, hb2⟩
      rw [if_neg hno', hframe b hlt hnb]
      exact hb

theorem SatH.drew {F : Mem → Prop} {w0 : World} {h : List HO} {e : Env} {w : World} (S : SatH F w0 h e w) : SatH F w0 h e w.drew :=
  ⟨S.os, S.tape, S.output, fun i ho hi => by
    have := S.sat i ho hi
    cases ho <;> exact this, S.ws, S.one, S.fact⟩
end Go.Sx
