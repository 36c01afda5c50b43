/- Prefixes of texts: what Go's library answers. -/
import Derived.Test.YtcipmpamhffclaaBase
namespace Go.Pl
noncomputable def hasPre (s p : ByteArray) : Bool := decide (p.size ≤ s.size) && ((s.extract 0 p.size).toList == p.toList)
noncomputable def cutPre (s p : ByteArray) : Value := .tuple #[.string (bif hasPre s p then s.extract p.size s.size else s), .bool (hasPre s p)]
end Go.Pl
namespace Go.Proofs.Ytcipmpamhffclaa
open Go.Sx Go.Pl Go.RowKit
theorem run49 (s p : ByteArray) : (((xgo Try.prog X (bodyOf Try.f49) 18 C0 [] 50 [] (Tree.br [] Tree.nil [] Tree.nil) [.at []] ⟨argsTm 0 [.string s, .string p], []⟩ [] []).bind (ends Try.prog Try.f49.results.toList)).bind plainE) =
  some
  [EndP.mk [decide ((↑(ByteArray.size p) : Int) ≤ (↑(ByteArray.size s) : Int)) = true]
      [fun _ => decide ((↑(ByteArray.size p) : Int) ≤ (↑(ByteArray.size s) : Int)) = true, fun _ =>
        (0 : Int) ≤ (↑(ByteArray.size p) : Int) ∧ (↑(ByteArray.size p) : Int) ≤ (↑(ByteArray.size s) : Int)]
      (Res.v
        (Value.bool
          (ByteArray.toList (ByteArray.extract s (0 : Nat) (Int.toNat (↑(ByteArray.size p) : Int))) ==
            ByteArray.toList p))),
    EndP.mk [decide ((↑(ByteArray.size p) : Int) ≤ (↑(ByteArray.size s) : Int)) = false]
      [fun _ => decide ((↑(ByteArray.size p) : Int) ≤ (↑(ByteArray.size s) : Int)) = false] (Res.v (Value.bool false))]
 := by kernel_rfl

theorem pre_ok (s p : ByteArray) (w : World) : Calls Try.prog 49 [.string s, .string p].toArray w (fun E w' => ∃ v, E = .returned v ∧ Res.ok w w' (.v (.bool (hasPre s p))) v ∧ Below w.heap.size w w') := by
  refine con_end (calls_plain hm Try.func49 (by kernel_rfl) rfl rfl 50 _ _ (run49 s p) ⟨fun has => ⟨?_, ?_⟩, fun has => ⟨?_, ?_⟩, trivial⟩)
  · have h1 := has _ List.mem_cons_self
    simp only [hold_cons, hold_nil, and_true]
    refine ⟨fun _ _ => h1, fun _ _ => ⟨by omega, by simpa using h1⟩⟩
  · have h1 := has _ List.mem_cons_self
    have h1 : p.size ≤ s.size := by simpa using h1
    simp [hasPre, h1]
  · have h1 := has _ List.mem_cons_self
    simp only [hold_cons, hold_nil, and_true]
    exact fun _ _ => h1
  · have h1 := has _ List.mem_cons_self
    have h1 : ¬ p.size ≤ s.size := by simpa using h1
    simp only [hasPre, h1, decide_false, Bool.false_and]
/-- Two texts. -/
def two (g : ByteArray → ByteArray → Res × Prop) : List RV → Option (Res × Prop)
  | [.v (.string s), .v (.string p)] => some (g s p)
  | _ => none
theorem two_ok {f : FuncId} {g : ByteArray → ByteArray → Res × Prop} (h : ∀ s p w, (g s p).2 → Calls Try.prog f [.string s, .string p].toArray w (fun E w' => ∃ v, E = .returned v ∧ Res.ok w w' (g s p).1 v ∧ Below w.heap.size w w')) :
    ∀ rvs r p vs w, two g rvs = some (r, p) → p → RVs (wmem w) rvs vs → Calls Try.prog f vs.toArray w (fun E w' => ∃ v, E = .returned v ∧ r.ok w w' v ∧ Below w.heap.size w w') := by
  intro rvs r p vs w hg hp hv
  unfold two at hg
  split at hg
  · rename_i s q
    simp only [Option.some.injEq] at hg
    match vs, hv with
    | [x, y], ⟨h1, h2, _⟩ =>
      subst h1
      subst h2
      have := h s q w
      rw [hg] at this
      exact this hp
  · cases hg
noncomputable def C1 : Con Try.prog := C0.add 49 (two fun s p => (.v (.bool (hasPre s p)), True)) (two_ok fun s p w _ => pre_ok s p w)
theorem run46 (s p : ByteArray) : (((xgo Try.prog X (bodyOf Try.f46) 15 C1 [] 50 [] (Tree.br [] Tree.nil [] Tree.nil) [.at []] ⟨argsTm 0 [.string s, .string p], []⟩ [] []).bind (ends Try.prog Try.f46.results.toList)).bind plainE) =
  some
  [EndP.mk [(!hasPre s p) = true] [fun _ => True, fun _ => (!hasPre s p) = true]
      (Res.v (Value.tuple (Array.mk [Value.string s, Value.bool false]))),
    EndP.mk [(!hasPre s p) = false]
      [fun _ => True, fun _ => (!hasPre s p) = false, fun _ =>
        (0 : Int) ≤ (↑(ByteArray.size p) : Int) ∧ (↑(ByteArray.size p) : Int) ≤ (↑(ByteArray.size s) : Int)]
      (Res.v
        (Value.tuple
          (Array.mk
            [Value.string (ByteArray.extract s (Int.toNat (↑(ByteArray.size p) : Int)) (ByteArray.size s)),
              Value.bool true])))]
 := by kernel_rfl

theorem cut_ok (s p : ByteArray) (w : World) : Calls Try.prog 46 [.string s, .string p].toArray w (fun E w' => ∃ v, E = .returned v ∧ Res.ok w w' (.v (cutPre s p)) v ∧ Below w.heap.size w w') := by
  refine con_end (calls_plain hm Try.func46 (by kernel_rfl) rfl rfl 50 _ _ (run46 s p) ⟨fun has => ⟨?_, ?_⟩, fun has => ⟨?_, ?_⟩, trivial⟩)
  · have h1 := has _ List.mem_cons_self
    simp only [hold_cons, hold_nil, and_true]
    exact ⟨fun _ _ => trivial, fun _ _ => h1⟩
  · have h1 := has _ List.mem_cons_self
    have h1 : hasPre s p = false := by simpa using h1
    simp [cutPre, h1]
  · have h1 := has _ List.mem_cons_self
    have h2 : hasPre s p = true := by simpa using h1
    have h3 : p.size ≤ s.size := by
      simp only [hasPre, Bool.and_eq_true, decide_eq_true_eq] at h2
      exact h2.1
    simp only [hold_cons, hold_nil, and_true]
    exact ⟨fun _ _ => trivial, fun _ _ => h1, fun _ _ => ⟨by omega, by omega⟩⟩
  · have h1 := has _ List.mem_cons_self
    have h2 : hasPre s p = true := by simpa using h1
    simp [cutPre, h2]
noncomputable def C2 : Con Try.prog := C1.add 46 (two fun s p => (.v (cutPre s p), True)) (two_ok fun s p w _ => cut_ok s p w)
theorem run39 (s p : ByteArray) : (((xgo Try.prog X (bodyOf Try.f39) 11 C2 [] 50 [] (Tree.nil) [.at []] ⟨argsTm 0 [.string s, .string p], []⟩ [] []).bind (ends Try.prog Try.f39.results.toList)).bind plainE) =
  some
  [EndP.mk [] [fun _ => True]
      (Res.v
        (Value.tuple
          (Array.mk
            [Value.string
                (match hasPre s p with
                | true => ByteArray.extract s (ByteArray.size p) (ByteArray.size s)
                | false => s),
              Value.bool (hasPre s p)])))]
 := by kernel_rfl

theorem strcut_ok (s p : ByteArray) (w : World) : Calls Try.prog 39 [.string s, .string p].toArray w (fun E w' => ∃ v, E = .returned v ∧ Res.ok w w' (.v (cutPre s p)) v ∧ Below w.heap.size w w') := by
  refine con_end (calls_plain hm Try.func39 (by kernel_rfl) rfl rfl 50 _ _ (run39 s p) ⟨fun has => ⟨?_, ?_⟩, trivial⟩)
  · simp only [hold_cons, hold_nil, and_true]
    exact fun _ _ => trivial
  · unfold cutPre
    cases hasPre s p <;> rfl
noncomputable def C3 : Con Try.prog := C2.add 39 (two fun s p => (.v (cutPre s p), True)) (two_ok fun s p w _ => strcut_ok s p w)
/-- One call whose arguments are known. -/
def konst (args : List Value) (r : Res) : List RV → Option (Res × Prop) := fun rvs => some (r, rvs = args.map RV.v)
theorem rvs_konst {M : Mem} : ∀ (args vs : List Value), RVs M (args.map RV.v) vs → vs = args
  | [], [], _ => rfl
  | [], _ :: _, h => h.elim
  | _ :: _, [], h => h.elim
  | a :: r, v :: vs, h => by rw [h.1, rvs_konst r vs h.2]
theorem konst_ok {f : FuncId} {args : List Value} {r0 : Res} (h : ∀ w, Calls Try.prog f args.toArray w (fun E w' => ∃ v, E = .returned v ∧ Res.ok w w' r0 v ∧ Below w.heap.size w w')) :
    ∀ rvs r p vs w, konst args r0 rvs = some (r, p) → p → RVs (wmem w) rvs vs → Calls Try.prog f vs.toArray w (fun E w' => ∃ v, E = .returned v ∧ r.ok w w' v ∧ Below w.heap.size w w') := by
  intro rvs r p vs w hg hp hv
  simp only [konst, Option.some.injEq, Prod.mk.injEq] at hg
  obtain ⟨rfl, rfl⟩ := hg
  subst hp
  rw [rvs_konst args vs hv]
  exact h w
end Go.Proofs.Ytcipmpamhffclaa
