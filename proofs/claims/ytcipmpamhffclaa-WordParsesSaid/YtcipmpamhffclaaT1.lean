/- Lengths and leading zeros of ten and sixteen. -/
import Derived.Test.YtcipmpamhffclaaV5
namespace Go.Proofs.Ytcipmpamhffclaa
open Go.Sx Go.Pl Go.RowKit
theorem len10 : (((xgo Try.prog X (bodyOf Try.f52) 25 CC [] 50 [Dec.f, Dec.f, Dec.f] (Tree.nil) [.at []] ⟨argsTm 0 [.int .u64 10], []⟩ [] []).bind (ends Try.prog Try.f52.results.toList)).bind plainE) =
  some [EndP.mk [] [fun _ => false = false,
    fun _ => false = false,
    fun _ => false = false,
    fun _ => (0 : Int) ≤ (10 : Int) ∧ (10 : Int) < (256 : Int)] (Res.v (Value.int IntKind.i64 (4 : Int)))]
  := by kernel_rfl

theorem len16 : (((xgo Try.prog X (bodyOf Try.f52) 25 CC [] 50 [Dec.f, Dec.f, Dec.f] (Tree.nil) [.at []] ⟨argsTm 0 [.int .u64 16], []⟩ [] []).bind (ends Try.prog Try.f52.results.toList)).bind plainE) =
  some [EndP.mk [] [fun _ => false = false,
    fun _ => false = false,
    fun _ => false = false,
    fun _ => (0 : Int) ≤ (16 : Int) ∧ (16 : Int) < (256 : Int)] (Res.v (Value.int IntKind.i64 (5 : Int)))]
  := by kernel_rfl

theorem len_ok (y : Int) (hy : y = 10 ∨ y = 16) (w : World) : Calls Try.prog 52 [.int .u64 y].toArray w (fun E w' => ∃ v, E = .returned v ∧ Res.ok w w' (.v (.int .i64 (bif decide (y = 10) then 4 else 5))) v ∧ Below w.heap.size w w') := by
  rcases hy with rfl | rfl
  · refine con_end (calls_plain hm Try.func52 (by kernel_rfl) rfl rfl 50 _ _ len10 ⟨fun _ => ⟨?_, rfl⟩, trivial⟩)
    simp only [hold_cons, hold_nil, and_true]
    exact ⟨fun _ _ => trivial, fun _ _ => trivial, fun _ _ => trivial, fun _ _ => ⟨by omega, by omega⟩⟩
  · refine con_end (calls_plain hm Try.func52 (by kernel_rfl) rfl rfl 50 _ _ len16 ⟨fun _ => ⟨?_, rfl⟩, trivial⟩)
    simp only [hold_cons, hold_nil, and_true]
    exact ⟨fun _ _ => trivial, fun _ _ => trivial, fun _ _ => trivial, fun _ _ => ⟨by omega, by omega⟩⟩
noncomputable def gLen (A B : Int) : List RV → Option (Res × Prop)
  | [.v (.int .u64 y)] => some (.v (.int .i64 (bif decide (y = 10) then A else B)), y = 10 ∨ y = 16)
  | _ => none
theorem gLen_ok {f : FuncId} {A B : Int} (h : ∀ (y : Int), y = 10 ∨ y = 16 → ∀ w, Calls Try.prog f [.int .u64 y].toArray w (fun E w' => ∃ v, E = .returned v ∧ Res.ok w w' (.v (.int .i64 (bif decide (y = 10) then A else B))) v ∧ Below w.heap.size w w'))
    (rvs : List RV) (r : Res) (p : Prop) (vs : List Value) (w : World) (hg : gLen A B rvs = some (r, p)) (hp : p) (hv : RVs (wmem w) rvs vs) : Calls Try.prog f vs.toArray w (fun E w' => ∃ v, E = .returned v ∧ r.ok w w' v ∧ Below w.heap.size w w') := by
  unfold gLen at hg
  split at hg
  · rename_i y
    simp only [Option.some.injEq, Prod.mk.injEq] at hg
    obtain ⟨rfl, rfl⟩ := hg
    match vs, hv with
    | [a], ⟨h1, _⟩ =>
      rw [h1]
      exact h y hp w
  · cases hg
noncomputable def TA : Con Try.prog := CG.add 52 (gLen 4 5) (gLen_ok len_ok)
end Go.Proofs.Ytcipmpamhffclaa

namespace Go.Proofs.Ytcipmpamhffclaa
open Go.Sx Go.Pl Go.RowKit
theorem lz10 : (((xgo Try.prog X (bodyOf Try.f51) 6 TA [] 50 [] (Tree.nil) [.at []] ⟨argsTm 0 [.int .u64 10], []⟩ [] []).bind (ends Try.prog Try.f51.results.toList)).bind plainE) =
  some [EndP.mk [] [fun _ => (10 : Int) = (10 : Int) ∨ (10 : Int) = (16 : Int)] (Res.v (Value.int IntKind.i64 (60 : Int)))]
  := by kernel_rfl

theorem lz16 : (((xgo Try.prog X (bodyOf Try.f51) 6 TA [] 50 [] (Tree.nil) [.at []] ⟨argsTm 0 [.int .u64 16], []⟩ [] []).bind (ends Try.prog Try.f51.results.toList)).bind plainE) =
  some [EndP.mk [] [fun _ => (16 : Int) = (10 : Int) ∨ (16 : Int) = (16 : Int)] (Res.v (Value.int IntKind.i64 (59 : Int)))]
  := by kernel_rfl

theorem lz_ok (y : Int) (hy : y = 10 ∨ y = 16) (w : World) : Calls Try.prog 51 [.int .u64 y].toArray w (fun E w' => ∃ v, E = .returned v ∧ Res.ok w w' (.v (.int .i64 (bif decide (y = 10) then 60 else 59))) v ∧ Below w.heap.size w w') := by
  rcases hy with rfl | rfl
  · refine con_end (calls_plain hm Try.func51 (by kernel_rfl) rfl rfl 50 _ _ lz10 ⟨fun _ => ⟨?_, rfl⟩, trivial⟩)
    simp only [hold_cons, hold_nil, and_true]
    exact fun _ _ => by simp
  · refine con_end (calls_plain hm Try.func51 (by kernel_rfl) rfl rfl 50 _ _ lz16 ⟨fun _ => ⟨?_, rfl⟩, trivial⟩)
    simp only [hold_cons, hold_nil, and_true]
    exact fun _ _ => by simp
noncomputable def TB : Con Try.prog := TA.add 51 (gLen 60 59) (gLen_ok lz_ok)
end Go.Proofs.Ytcipmpamhffclaa
