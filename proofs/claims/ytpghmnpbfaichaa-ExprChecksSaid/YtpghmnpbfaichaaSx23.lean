/- A run's leaves with the slots that matter alone, in a given order. -/
import Derived.Test.YtpghmnpbfaichaaSx22
namespace Go.Sx
open Go.RowKit

def pickT (tm : List (Nat × SV)) : List Nat → List (Nat × SV)
  | [] => []
  | t :: r => match lk tm t with
    | some s => (t, s) :: pickT tm r
    | none => pickT tm r
def trim (ts : List Nat) (l : Leaf2) : Leaf2 := ⟨l.as, l.sd, l.k, ⟨pickT l.st.tm ts, l.st.heap⟩⟩
def trims (ts : List Nat) : List Leaf2 → List Leaf2
  | [] => []
  | l :: r => trim ts l :: trims ts r

theorem lk_pick (tm : List (Nat × SV)) : ∀ (ts : List Nat) (t : Nat) (s : SV), lk (pickT tm ts) t = some s → lk tm t = some s
  | [], _, _, h => by cases h
  | u :: r, t, s, h => by
    simp only [pickT] at h
    split at h
    · rename_i x hx
      simp only [lk] at h
      cases hb : Nat.beq u t with
      | true =>
        rw [hb] at h
        simp only [cond_true] at h
        rw [← Nat.eq_of_beq_eq_true hb, hx]
        exact h
      | false =>
        rw [hb] at h
        exact lk_pick tm r t s h
    · exact lk_pick tm r t s h
theorem mem_trims (ts : List Nat) : ∀ (L : List Leaf2) (l : Leaf2), l ∈ L → trim ts l ∈ trims ts L
  | [], _, h => by cases h
  | x :: r, l, h => by
    rcases List.mem_cons.1 h with rfl | h
    · exact List.mem_cons_self
    · exact List.mem_cons_of_mem _ (mem_trims ts r l h)

section
variable {P : Program} {X : Ext P} {B : Code} {n : Nat} {F : Mem → Prop} {w0 : World} {fin : Exit → Act → World → Prop} {C : Con P} {U : List (List Nat × Nat)}
theorem Ok.trim {k : List It} {st : St} (ts : List Nat) (h : Ok P B n F w0 fin k ⟨pickT st.tm ts, st.heap⟩) : Ok P B n F w0 fin k st :=
  fun e a w S T => h e a w S ⟨T.size, T.defers, fun t s hs => T.get t s (lk_pick _ _ _ _ hs), fun t s hs => T.wsc t s (lk_pick _ _ _ _ hs)⟩
theorem xgo_trim (hm : P.follows .mixedOrders = true) (hF : Mono F) (hfin : ∀ c (a : Act) (d : Option Tmp) (v : Value) (w : World), fin (.panic c) (a.put d v) w → fin (.panic c) a w)
    (fuel : Nat) (D : List Dec) (T : Tree) (k : List It) (st : St) (ts : List Nat) (L : List Leaf2) (h : (xgo P X B n C U fuel D T k st [] []).map (trims ts) = some L)
    (hp : Paid2 P B n F w0 fin L) : Ok P B n F w0 fin k st := by
  cases h1 : xgo P X B n C U fuel D T k st [] [] with
  | none => rw [h1] at h; cases h
  | some L1 =>
    rw [h1, Option.map_some, Option.some.injEq] at h
    subst h
    refine (xgo_sound hm hF hfin fuel D T k st [] [] L1 h1 (fun l hl ha => ?_) (fun a ha => by cases ha)).2
    obtain ⟨q1, q2⟩ := hp _ (mem_trims ts L1 l hl) ha
    exact ⟨q1, q2.trim ts⟩
end
theorem paidNil {P : Program} {B : Code} {n : Nat} {F : Mem → Prop} {w0 : World} {fin : Exit → Act → World → Prop} : Paid2 P B n F w0 fin [] := fun l hl => by cases hl
theorem paidCons {P : Program} {B : Code} {n : Nat} {F : Mem → Prop} {w0 : World} {fin : Exit → Act → World → Prop} {l : Leaf2} {L : List Leaf2} (h : (∀ a ∈ l.as, a) → hold F l.sd ∧ Ok P B n F w0 fin l.k l.st) (hL : Paid2 P B n F w0 fin L) :
    Paid2 P B n F w0 fin (l :: L) := fun x hx ha => by
  rcases List.mem_cons.1 hx with rfl | hx
  · exact h ha
  · exact hL x hx ha
end Go.Sx
