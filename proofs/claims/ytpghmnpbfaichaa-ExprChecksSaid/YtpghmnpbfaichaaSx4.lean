/- The operations that write nothing: the reckoner and its truth. -/
import Derived.Test.YtpghmnpbfaichaaSx3
namespace Go.Sx
open Go.RowKit

def ptrAdd (h : List HO) (k : Nat) : SV → Option (SV × List Side)
  | .p i off => some (.p i (off + k), [])
  | .q i off => match h[i]? with
    | some (.row _ _ _ xs) => some (.q i (off + k), [fun _ => 0 < xs.length])
    | _ => none
  | .v (.pointer oa) => some (.v (.pointer (oa.map fun ad => ad.add k)), [fun _ => oa.isSome = true])
  | _ => none

section
variable {P : Program} {F : Mem → Prop} {h : List HO} {e : Env} {w : World} {M : Mem}

theorem row_some (S : SatQ F h e w) {i : Nat} {T : TypeId} {sz n : Nat} {xs : List SV} (hi : h[i]? = some (.row T sz n xs)) (hx : 0 < xs.length) :
    ∃ g cap cur, e.row i = .slice (some ⟨g, 0, none⟩) n cap ∧ w.heap[g]? = some (.cells cur T (0, 0)) ∧ cur.toList.take (n * sz) = denL e xs := by
  obtain ⟨⟨h1, h2⟩, _⟩ := S.sat i _ hi
  rcases h2 with ⟨hv, hn⟩ | ⟨g, cap, cur, hv, _, hh, _, _, _, ht⟩
  · subst hn
    rw [denL_length] at h1
    omega
  · exact ⟨g, cap, cur, hv, hh, ht⟩

theorem ptrAdd_sound (S : SatQ F h e w) {k : Nat} {s s' : SV} {sd : List Side} (hp : ptrAdd h k s = some (s', sd)) (hsd : ∀ x ∈ sd, x M) :
    (∃ ad, den e s = .pointer (some ad) ∧ den e s' = .pointer (some (ad.add k))) ∧ ∀ n, ws n s → ws n s' := by
  unfold ptrAdd at hp
  split at hp
  · simp only [Option.some.injEq, Prod.mk.injEq] at hp
    obtain ⟨rfl, rfl⟩ := hp
    exact ⟨⟨_, rfl, by simp only [den, Addr.add_lit]⟩, fun _ hh => hh⟩
  · rename_i i off
    split at hp
    · rename_i T sz nn xs hr
      simp only [Option.some.injEq, Prod.mk.injEq] at hp
      obtain ⟨rfl, rfl⟩ := hp
      obtain ⟨g, cap, cur, hv, _, _⟩ := row_some S hr (hsd _ List.mem_cons_self)
      exact ⟨⟨⟨g, off, none⟩, by simp only [den, hv], by simp only [den, hv, Addr.add_lit]⟩, fun _ hh => hh⟩
    · cases hp
  · rename_i oa
    simp only [Option.some.injEq, Prod.mk.injEq] at hp
    obtain ⟨rfl, rfl⟩ := hp
    have := hsd _ List.mem_cons_self
    cases oa with
    | none => simp at this
    | some ad => exact ⟨⟨ad, rfl, rfl⟩, fun _ hh => hh⟩
  · cases hp

theorem run_fieldAt {S0 : TypeId} {fs : Array Field} {f : Nat} {fd : Field} {n : Nat} {ad : Addr} (hu : P.underlying S0 = some (.struct fs)) (hf : fs[f]? = some fd)
    (hn : tsize P fd.type = some n) (h0 : n ≠ 0) : (Instr.fieldAt S0 (.pointer (some ad)) f).run P w = .ok (.pointer (some (ad.add fd.offset))) w := by
  simp [Instr.fieldAt, run_underlying hu, hf, Instr.sureAddr, fieldPlace, tsize_run hn, h0]

theorem run_indexAt_array {T : TypeId} {len el sz : Nat} {k : IntKind} {i : Int} {ad : Addr} (hu : P.underlying T = some (.array len el)) (hn : tsize P el = some sz)
    (h0 : 0 ≤ i ∧ i < len) : (Instr.indexAt T (.pointer (some ad)) (.int k i)).run P w = .ok (.pointer (some (ad.add (i.toNat * sz)))) w := by
  simp [Instr.indexAt, asIntOf, run_underlying hu, Instr.sureAddr, h0, tsize_run hn]
theorem run_indexAt_slice {T : TypeId} {len cap el sz : Nat} {k : IntKind} {i : Int} {ad : Addr} (hu : P.underlying T = some (.slice el)) (hn : tsize P el = some sz)
    (h0 : 0 ≤ i ∧ i < len) : (Instr.indexAt T (.slice (some ad) len cap) (.int k i)).run P w = .ok (.pointer (some (ad.add (i.toNat * sz)))) w := by
  simp [Instr.indexAt, asIntOf, run_underlying hu, h0, tsize_run hn]
end

/-- A bound of a slice expression. -/
def xbnd (tm : List (Nat × SV)) (x : Option Operand) (dflt upto : Nat) : Option (Nat × List Side) :=
  match x with
  | none => some (dflt, [])
  | some x => match evInt tm x with
    | some (_, i) => some (i.toNat, [fun _ => 0 ≤ i ∧ i ≤ (upto : Int)])
    | none => none
/-- l, h, m of a slice expression. -/
def xbnds (tm : List (Nat × SV)) (len cap : Nat) (lo hi mx : Option Operand) : Option ((Nat × Nat × Nat) × List Side) :=
  match hi, mx with
  | none, some _ => none
  | _, _ =>
    match xbnd tm mx cap cap with
    | none => none
    | some (m, s1) => match xbnd tm hi len m with
      | none => none
      | some (hh, s2) => match xbnd tm lo 0 hh with
        | none => none
        | some (l, s3) => some ((l, hh, m), s1 ++ s2 ++ s3)

section
variable {P : Program} {tm : List (Nat × SV)} {n hl : Nat} {e : Env} {a : Act} {w : World} {M : Mem}
theorem xbnd_sound (T : TSat n hl tm e a) {x : Operand} {d u r : Nat} {sd : List Side} (h : xbnd tm (some x) d u = some (r, sd)) (hsd : ∀ x ∈ sd, x M) (c : BoundsCode) :
    (Instr.sliceBound (a.eval x) u c).run P w = .ok r w := by
  unfold xbnd at h
  simp only at h
  split at h
  · rename_i k i hi
    simp only [Option.some.injEq, Prod.mk.injEq] at h
    obtain ⟨rfl, rfl⟩ := h
    have := hsd _ List.mem_cons_self
    rw [evInt_sound T hi]
    simp [Instr.sliceBound, asIntOf, this]
  · cases h
theorem xbnds_sound (T : TSat n hl tm e a) {len cap : Nat} {lo hi mx : Option Operand} {r : Nat × Nat × Nat} {sd : List Side}
    (h : xbnds tm len cap lo hi mx = some (r, sd)) (hsd : ∀ x ∈ sd, x M) (b : Bool) :
    (Instr.sliceBounds b len cap (lo.map a.eval) (hi.map a.eval) (mx.map a.eval)).run P w = .ok r w := by
  unfold xbnds at h
  split at h
  · cases h
  · rename_i hne
    split at h
    · cases h
    · rename_i m s1 h1
      split at h
      · cases h
      · rename_i hh s2 h2
        split at h
        · cases h
        · rename_i l s3 h3
          simp only [Option.some.injEq, Prod.mk.injEq] at h
          obtain ⟨rfl, rfl⟩ := h
          have hs1 : ∀ x ∈ s1, x M := fun x hx => hsd x (by simp [hx])
          have hs2 : ∀ x ∈ s2, x M := fun x hx => hsd x (by simp [hx])
          have hs3 : ∀ x ∈ s3, x M := fun x hx => hsd x (by simp [hx])
          cases mx with
          | none =>
            simp only [xbnd, Option.some.injEq, Prod.mk.injEq] at h1
            obtain ⟨rfl, _⟩ := h1
            cases hi with
            | none =>
              simp only [xbnd, Option.some.injEq, Prod.mk.injEq] at h2
              obtain ⟨rfl, _⟩ := h2
              cases lo with
              | none =>
                simp only [xbnd, Option.some.injEq, Prod.mk.injEq] at h3
                obtain ⟨rfl, _⟩ := h3
                simp [Instr.sliceBounds]
              | some z =>
                have b3 := fun c => xbnd_sound (P := P) (w := w) T h3 hs3 c
                simp [Instr.sliceBounds, b3]
            | some y =>
              have b2 := fun c => xbnd_sound (P := P) (w := w) T h2 hs2 c
              cases lo with
              | none =>
                simp only [xbnd, Option.some.injEq, Prod.mk.injEq] at h3
                obtain ⟨rfl, _⟩ := h3
                simp [Instr.sliceBounds, b2]
              | some z =>
                have b3 := fun c => xbnd_sound (P := P) (w := w) T h3 hs3 c
                simp [Instr.sliceBounds, b2, b3]
          | some x =>
            have b1 := fun c => xbnd_sound (P := P) (w := w) T h1 hs1 c
            cases hi with
            | none => exact absurd rfl (hne _ rfl)
            | some y =>
              have b2 := fun c => xbnd_sound (P := P) (w := w) T h2 hs2 c
              cases lo with
              | none =>
                simp only [xbnd, Option.some.injEq, Prod.mk.injEq] at h3
                obtain ⟨rfl, _⟩ := h3
                simp [Instr.sliceBounds, b1, b2]
              | some z =>
                have b3 := fun c => xbnd_sound (P := P) (w := w) T h3 hs3 c
                simp [Instr.sliceBounds, b1, b2, b3]
end
end Go.Sx
