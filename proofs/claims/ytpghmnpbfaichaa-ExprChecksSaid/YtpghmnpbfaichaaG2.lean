/- The statement ExprChecks: its walk. -/
import Derived.Test.YtpghmnpbfaichaaG1
namespace Go.Pl
open Go.Sx
theorem degrees_len (l : List Nd) : (degrees l).length ≤ l.length := by
  rw [degrees]; split
  · rw [degsN_length]; simp
  · simp
theorem qsN_len : ∀ (l : List Nd) (out : List Qy), (qsN out l).length ≤ out.length + l.length
  | [], out => by simp [qsN]
  | x :: r, out => by
    rw [qsN_step]; split
    · have := qsN_len r (out ++ [(x.op, x.a, x.b)]); simp at this ⊢; omega
    · have := qsN_len r out; simp at this ⊢; omega
theorem coneN_len (l : List Nd) (r : Int) : (coneN l r).length ≤ l.length := by
  rw [coneN]; split
  · rename_i h
    rw [List.length_map]
    refine Nat.le_trans (List.length_filter_le _ _) ?_
    rw [List.length_range]
    omega
  · simp
theorem dgL_un {cs : List Value} : dgL cs = intsC (unIs (dgL cs)) ∧ (unIs (dgL cs)).length = dgN cs := by
  rw [dgL, dgN, hide_eq, unIs_intsC]; exact ⟨rfl, rfl⟩
theorem cnL_un {cs : List Value} {r : Int} : cnL cs r = intsC (unIs (cnL cs r)) ∧ (unIs (cnL cs r)).length = cnN cs r := by
  rw [cnL, cnN, hide_eq, unIs_intsC]; exact ⟨rfl, rfl⟩
theorem qyL_un {cs : List Value} : qyL cs = qsC (unQs (qyL cs)) ∧ (unQs (qyL cs)).length = qyN cs := by
  rw [qyL, qyN, hide_eq, unQs_qsC]; exact ⟨rfl, rfl⟩
end Go.Pl
namespace Go.Proofs.Ytpghmnpbfaichaa
open Go.Sx Go.Pl Go.RowKit
set_option linter.unusedVariables false
theorem xcA (oa : Option Addr) (n cap : Nat) (f a i r : Int) (l : List Nd) (z : Nat) : (((xgo Try.prog X (bodyOf Try.f12) 58 (L12 z) [] 90 [.f, .f, .lx (nodesC l), .lx (nodesC l), .t, .lx (nodesC l), .t, .lx (nodesC l), .t, .lx (nodesC l), .t, .lx (nodesC l)] ((.nil)) [.at []] ⟨argsTm 0 [.slice oa n cap, .int .i64 f, .int .i64 a, .int .i64 i, .int .i64 r], []⟩ [] []).bind (ends Try.prog Try.f12.results.toList)).bind plainE) =
  some [EndP.mk [] [fun _ => ([] : List RV) = [],
    fun _ => false = false,
    fun _ => decide ((200 : Int) < (↑n : Int)) = false, fun M => nodesC l = [] ∨ MCells (fun a => M a) oa (nodesC l),
    fun _ => nodesC l = nodesC (unNds (nodesC l)) ∧ List.length (unNds (nodesC l)) = n ∧ n ≤ (2000000000000 : Nat),
    fun _ => mapv (nodesC l) = mapv (unv (mapv (nodesC l))),
    fun _ => unv (mapv (nodesC l)) = nodesC (unNds (unv (mapv (nodesC l)))) ∧ List.length (unNds (unv (mapv (nodesC l)))) = n ∧ n ≤ (4398046511104 : Nat) ∧ ∀ (x : Nd), x ∈ unNds (unv (mapv (nodesC l))) → x.4 < top, fun M => nodesC l = [] ∨ MCells (fun a => M a) oa (nodesC l), fun x => nodesC l = nodesC (unNds (nodesC l)) ∧ List.length (unNds (nodesC l)) = n ∧ n ≤ (4398046511104 : Nat) ∧ ∀ (x : Nd), x ∈ unNds (nodesC l) → x.4 < top,
    fun _ => (chkV (unv (mapv (nodesC l))) f a i == chkV (nodesC l) f a i) = true,
    fun _ => mapv (nodesC l) = mapv (unv (mapv (nodesC l))),
    fun _ => unv (mapv (nodesC l)) = nodesC (unNds (unv (mapv (nodesC l)))) ∧ List.length (unNds (unv (mapv (nodesC l)))) = n ∧ n ≤ (4398046511104 : Nat) ∧ ∀ (x : Nd), x ∈ unNds (unv (mapv (nodesC l))) → x.4 < top, fun M => nodesC l = [] ∨ MCells (fun a => M a) oa (nodesC l), fun x => nodesC l = nodesC (unNds (nodesC l)) ∧ List.length (unNds (nodesC l)) = n ∧ n ≤ (4398046511104 : Nat) ∧ ∀ (x : Nd), x ∈ unNds (nodesC l) → x.4 < top,
    fun _ => mapv (dgL (unv (mapv (nodesC l)))) = mapv (unv (mapv (dgL (unv (mapv (nodesC l)))))),
    fun _ => mapv (dgL (nodesC l)) = mapv (unv (mapv (dgL (nodesC l)))),
    fun _ => unv (mapv (dgL (unv (mapv (nodesC l))))) = intsC (unIs (unv (mapv (dgL (unv (mapv (nodesC l))))))) ∧ List.length (unIs (unv (mapv (dgL (unv (mapv (nodesC l))))))) = dgN (unv (mapv (nodesC l))) ∧ dgN (unv (mapv (nodesC l))) ≤ (4611686018427387903 : Nat) ∧ unv (mapv (dgL (nodesC l))) = intsC (unIs (unv (mapv (dgL (nodesC l))))) ∧ List.length (unIs (unv (mapv (dgL (nodesC l))))) = dgN (nodesC l),
    fun _ => siB (unv (mapv (dgL (unv (mapv (nodesC l)))))) (unv (mapv (dgL (nodesC l)))) = true,
    fun _ => mapv (nodesC l) = mapv (unv (mapv (nodesC l))),
    fun _ => unv (mapv (nodesC l)) = nodesC (unNds (unv (mapv (nodesC l)))) ∧ List.length (unNds (unv (mapv (nodesC l)))) = n ∧ n ≤ (4398046511104 : Nat), fun M => nodesC l = [] ∨ MCells (fun a => M a) oa (nodesC l),
    fun _ => nodesC l = nodesC (unNds (nodesC l)) ∧ List.length (unNds (nodesC l)) = n ∧ n ≤ (4398046511104 : Nat),
    fun _ => mapv (qyL (unv (mapv (nodesC l)))) = mapv (unv (mapv (qyL (unv (mapv (nodesC l)))))),
    fun _ => mapv (qyL (nodesC l)) = mapv (unv (mapv (qyL (nodesC l)))),
    fun _ => unv (mapv (qyL (unv (mapv (nodesC l))))) = qsC (unQs (unv (mapv (qyL (unv (mapv (nodesC l))))))) ∧ List.length (unQs (unv (mapv (qyL (unv (mapv (nodesC l))))))) = qyN (unv (mapv (nodesC l))) ∧ qyN (unv (mapv (nodesC l))) ≤ (4611686018427387903 : Nat) ∧ unv (mapv (qyL (nodesC l))) = qsC (unQs (unv (mapv (qyL (nodesC l))))) ∧ List.length (unQs (unv (mapv (qyL (nodesC l))))) = qyN (nodesC l),
    fun _ => sqB (unv (mapv (qyL (unv (mapv (nodesC l)))))) (unv (mapv (qyL (nodesC l)))) = true,
    fun _ => mapv (nodesC l) = mapv (unv (mapv (nodesC l))),
    fun _ => unv (mapv (nodesC l)) = nodesC (unNds (unv (mapv (nodesC l)))) ∧ List.length (unNds (unv (mapv (nodesC l)))) = n ∧ n ≤ (4398046511104 : Nat) ∧ ∀ (x : Nd), x ∈ unNds (unv (mapv (nodesC l))) → x.4 < top, fun M => nodesC l = [] ∨ MCells (fun a => M a) oa (nodesC l), fun x => nodesC l = nodesC (unNds (nodesC l)) ∧ List.length (unNds (nodesC l)) = n ∧ n ≤ (4398046511104 : Nat) ∧ ∀ (x : Nd), x ∈ unNds (nodesC l) → x.4 < top,
    fun _ => mapv (cnL (unv (mapv (nodesC l))) r) = mapv (unv (mapv (cnL (unv (mapv (nodesC l))) r))),
    fun _ => mapv (cnL (nodesC l) r) = mapv (unv (mapv (cnL (nodesC l) r))),
    fun _ => unv (mapv (cnL (unv (mapv (nodesC l))) r)) = intsC (unIs (unv (mapv (cnL (unv (mapv (nodesC l))) r)))) ∧ List.length (unIs (unv (mapv (cnL (unv (mapv (nodesC l))) r)))) = cnN (unv (mapv (nodesC l))) r ∧ cnN (unv (mapv (nodesC l))) r ≤ (4611686018427387903 : Nat) ∧ unv (mapv (cnL (nodesC l) r)) = intsC (unIs (unv (mapv (cnL (nodesC l) r)))) ∧ List.length (unIs (unv (mapv (cnL (nodesC l) r)))) = cnN (nodesC l) r,
    fun _ => siB (unv (mapv (cnL (unv (mapv (nodesC l))) r))) (unv (mapv (cnL (nodesC l) r))) = true,
    fun _ => mapv (nodesC l) = mapv (unv (mapv (nodesC l))), fun M => nodesC l = [] ∨ MCells (fun a => M a) oa (nodesC l),
    fun _ => unv (mapv (nodesC l)) = nodesC (unNds (unv (mapv (nodesC l)))) ∧ List.length (unNds (unv (mapv (nodesC l)))) = n ∧ n ≤ (4611686018427387903 : Nat) ∧ nodesC l = nodesC (unNds (nodesC l)) ∧ List.length (unNds (nodesC l)) = n ∧ (∀ (x : Nd), x ∈ unNds (unv (mapv (nodesC l))) → x.4 < top) ∧ ∀ (x : Nd), x ∈ unNds (nodesC l) → x.4 < top] (Res.v (Value.bool (snB (unv (mapv (nodesC l))) (nodesC l))))]
  := by kernel_rfl

theorem xcB (oa : Option Addr) (n cap : Nat) (f a i r : Int) (l : List Nd) (z : Nat) : (((xgo Try.prog X (bodyOf Try.f12) 58 (L12 z) [] 90 [.f, .t] ((.nil)) [.at []] ⟨argsTm 0 [.slice oa n cap, .int .i64 f, .int .i64 a, .int .i64 i, .int .i64 r], []⟩ [] []).bind (ends Try.prog Try.f12.results.toList)).bind plainE) =
  some [EndP.mk [] [fun _ => ([] : List RV) = [],
    fun _ => false = false,
    fun _ => decide ((200 : Int) < (↑n : Int)) = true] (Res.v (Value.bool true))]
  := by kernel_rfl

theorem exprChecks_ok (oa : Option Addr) (n cap : Nat) (f a i r : Int) (all : List Nd) (hw : ∀ x ∈ all, x.v < top) (hn : all.length = n) (w : World) (ha : nodesC all = [] ∨ MCells (wmem w) oa (nodesC all)) :
    Calls Try.prog 12 [.slice oa n cap, .int .i64 f, .int .i64 a, .int .i64 i, .int .i64 r].toArray w (fun E w' => ∃ v, E = .returned v ∧ Res.ok w w' (.v (.bool true)) v ∧ Below w.heap.size w w') := by
  have z : Nat := 0
  by_cases hg : 200 < n
  · refine con_end (calls_plain hm Try.func12 (by kernel_rfl) rfl rfl 90 _ _ (xcB oa n cap f a i r all z) ⟨fun _ => ⟨?_, rfl⟩, trivial⟩)
    simp only [hold_cons, hold_nil, and_true]
    exact ⟨fun _ _ => trivial, fun _ _ => trivial, fun _ _ => decide_eq_true (by omega)⟩
  have hun := unNds_nodesC all hw
  have hmem : ∀ M, F0 w M → nodesC all = [] ∨ MCells (fun a => M a) oa (nodesC all) := fun _ hM => ha.imp id fun h => h.mono hM
  have hdn : dgN (nodesC all) ≤ 4611686018427387903 := by
    have := degrees_len all
    rw [dgN, hide_eq, hun]; omega
  have hqn : qyN (nodesC all) ≤ 4611686018427387903 := by
    have := qsN_len all []
    simp only [List.length_nil] at this
    rw [qyN, hide_eq, hun]; omega
  have hcn : cnN (nodesC all) r ≤ 4611686018427387903 := by
    have := coneN_len all r
    rw [cnN, hide_eq, hun]; omega
  have s1 : ∀ (B : Nat), 200 ≤ B → nodesC all = nodesC (unNds (nodesC all)) ∧ (unNds (nodesC all)).length = n ∧ n ≤ B := fun B hB => by rw [hun]; exact ⟨rfl, hn, by omega⟩
  have s2 : ∀ (B : Nat), 200 ≤ B → nodesC all = nodesC (unNds (nodesC all)) ∧ (unNds (nodesC all)).length = n ∧ n ≤ B ∧ ∀ x ∈ unNds (nodesC all), x.v < top := fun B hB => by rw [hun]; exact ⟨rfl, hn, by omega, hw⟩
  have hD := dgL_un (cs := nodesC all)
  have hQ := qyL_un (cs := nodesC all)
  have hC := cnL_un (cs := nodesC all) (r := r)
  have e1 : nodesC all = nodesC (unNds (nodesC all)) := by rw [hun]
  have wt : ∀ x ∈ unNds (nodesC all), x.v < top := by rw [hun]; exact hw
  refine con_end (calls_plain hm Try.func12 (by kernel_rfl) rfl rfl 90 _ _ (xcA oa n cap f a i r all z) ⟨fun _ => ⟨?_, ?_⟩, trivial⟩)
  · simp only [unv_mapv']
    hld
    all_goals first
      | exact hmem
      | (intro _ _; first | exact True.intro | exact rfl | exact s1 _ (by omega) | exact s2 _ (by omega) | exact decide_eq_false (by omega) | exact beq_self_eq_true _ | exact siB_self _ | exact sqB_self _
                          | exact ⟨hD.1, hD.2, hdn, hD.1, hD.2⟩ | exact ⟨hQ.1, hQ.2, hqn, hQ.1, hQ.2⟩ | exact ⟨hC.1, hC.2, hcn, hC.1, hC.2⟩ | exact ⟨e1, by rw [hun]; exact hn, by omega, e1, by rw [hun]; exact hn, wt, wt⟩)
  · exact congrArg (fun b => Res.v (Value.bool b)) (by rw [unv_mapv', snB_self])
end Go.Proofs.Ytpghmnpbfaichaa
