/- Nodes, elements that come in as arguments. -/
import Derived.Test.YtpghmnpbfaichaaF11
import Derived.Laws.IdiomArrays
import Derived.ProofKit
import Derived.Deep.Slices
import Derived.WideKeyArgs
namespace Go.Pl
open Go.Sx
theorem flat_cells {M : Mem} {ad : Addr} (g : Nat → List Value) (sz : Nat) (hg : ∀ i, (g i).length = sz) : ∀ (n : Nat), (∀ i, i < n → ∀ j v, (g i)[j]? = some v → M.cell? (ad.add (i * sz + j)) = some v) → ∀ j v, ((List.range n).flatMap g)[j]? = some v → M.cell? (ad.add j) = some v
  | 0, _, j, v, hj => by simp at hj
  | n + 1, h, j, v, hj => by
    rw [List.range_succ, List.flatMap_append] at hj
    have hl : ((List.range n).flatMap g).length = n * sz := by
      rw [List.length_flatMap]
      clear h hj
      induction n with
      | zero => simp
      | succ n ih => rw [List.range_succ, List.map_append, List.sum_append, ih]; simp [hg, Nat.add_mul]
    by_cases hlt : j < n * sz
    · rw [List.getElem?_append_left (by omega)] at hj
      exact flat_cells g sz hg n (fun i hi => h i (by omega)) j v hj
    · rw [List.getElem?_append_right (by omega), hl] at hj
      simp only [List.flatMap_cons, List.flatMap_nil, List.append_nil] at hj
      have := h n (by omega) (j - n * sz) v hj
      rwa [show n * sz + (j - n * sz) = j by omega] at this
end Go.Pl
namespace Go.Proofs.Ytpghmnpbfaichaa
open Go.Sx Go.Pl Go.RowKit Go.ChangeShapes Go.WideShapes Go.ChangeAt
theorem u39 : Try.prog.underlying 39 = some (.int .u64) := by kernel_rfl
theorem u3 : Try.prog.underlying 3 = some (.int .i64) := by kernel_rfl
theorem u4 : Try.prog.underlying 4 = some .bool := by kernel_rfl
theorem u41 : Try.prog.underlying 41 = some (.array 4 39) := by kernel_rfl
theorem c39 : Try.prog.cellsOf 39 = 1 := by kernel_rfl
theorem c41 : Try.prog.cellsOf 41 = 4 := by kernel_rfl
theorem c43 : Try.prog.cellsOf 43 = 7 := by kernel_rfl
theorem c3 : Try.prog.cellsOf 3 = 1 := by kernel_rfl
theorem u22 : Try.prog.underlying 22 = some (.slice 43) := by kernel_rfl
theorem u51 : Try.prog.underlying 51 = some (.slice 41) := by kernel_rfl
theorem u43 : Try.prog.underlying 43 = some (.struct #[⟨"Op", 3, 0, false, "", "", 0⟩, ⟨"A", 3, 1, false, "", "", 8⟩, ⟨"B", 3, 2, false, "", "", 16⟩, ⟨"V", 41, 3, false, "", "", 24⟩]) := by kernel_rfl
theorem trod_u64 {H : Type} {enc : TypeId × Value → H} {w : World} {base : Nat} {sp : Nat → Bool} {hd : Bool} {n : Nat} {c : Value} {y : DataW H × List MemPlace}
    (h : DataW.trod enc Try.prog w base sp hd n 39 [c] = some y) : ∃ z : Nat, c = .int .u64 (z : Int) ∧ z < 18446744073709551616 := by
  obtain ⟨z, h1, h2, h3⟩ := DataW.trod_int u39 h
  simp only [List.cons.injEq, and_true] at h1
  subst h1
  have hb : 0 ≤ z ∧ z < 18446744073709551616 := by
    simp [Lit.wf, IntKind.min, IntKind.max, IntKind.signed, IntKind.bits] at h3
    omega
  obtain ⟨k, rfl⟩ := Int.eq_ofNat_of_zero_le hb.1
  exact ⟨k, rfl, by omega⟩
theorem trod_elC {H : Type} {enc : TypeId × Value → H} {w : World} {base : Nat} {sp : Nat → Bool} {hd : Bool} {n : Nat} {cs : List Value} {y : DataW H × List MemPlace} (hlen : cs.length = 4)
    (h : DataW.trod enc Try.prog w base sp hd n 41 cs = some y) : ∃ x : Nat, x < top ∧ cs = elC x := by
  match cs, hlen with
  | [x0, x1, x2, x3], _ =>
    obtain ⟨y0, y1, y2, y3, n', e1, t0, t1, t2, t3⟩ := trod_array4 u41 c39 h
    obtain ⟨z0, rfl, b0⟩ := trod_u64 t0
    obtain ⟨z1, rfl, b1⟩ := trod_u64 t1
    obtain ⟨z2, rfl, b2⟩ := trod_u64 t2
    obtain ⟨z3, rfl, b3⟩ := trod_u64 t3
    refine ⟨nv z0 z1 z2 z3, nv_lt b0 b1 b2 b3, ?_⟩
    obtain ⟨h0, h1, h2, h3⟩ := limb_nv b0 b1 b2 b3
    rw [elC, h0, h1, h2, h3]
theorem trod_i64 {H : Type} {enc : TypeId × Value → H} {w : World} {base : Nat} {sp : Nat → Bool} {hd : Bool} {n : Nat} {c : Value} {y : DataW H × List MemPlace}
    (h : DataW.trod enc Try.prog w base sp hd n 3 [c] = some y) : ∃ z : Int, c = .int .i64 z := by
  obtain ⟨z, h1, _, _⟩ := DataW.trod_int u3 h
  simp only [List.cons.injEq, and_true] at h1
  exact ⟨z, h1⟩
set_option maxRecDepth 100000 in
theorem trod_ndC {H : Type} {enc : TypeId × Value → H} {w : World} {base : Nat} {sp : Nat → Bool} {hd : Bool} {n : Nat} {cs : List Value} {y : DataW H × List MemPlace} (hlen : cs.length = 7)
    (h : DataW.trod enc Try.prog w base sp hd n 43 cs = some y) : ∃ x : Nd, x.v < top ∧ cs = ndC x := by
  obtain ⟨xs, k, _, _, _, hxl, hf⟩ := DataW.trod_struct u43 h
  match xs, hxl, cs, hlen with
  | [y0, y1, y2, y3], _, [v0, v1, v2, v3, v4, v5, v6], _ =>
    have g0 := hf 0 _ rfl
    have g1 := hf 1 _ rfl
    have g2 := hf 2 _ rfl
    have g3 := hf 3 _ rfl
    simp [c3, c41] at g0 g1 g2 g3
    obtain ⟨a0, rfl⟩ := trod_i64 g0
    obtain ⟨a1, rfl⟩ := trod_i64 g1
    obtain ⟨a2, rfl⟩ := trod_i64 g2
    obtain ⟨x, hx, he⟩ := trod_elC (by rfl) g3
    refine ⟨⟨a0, a1, a2, x⟩, hx, ?_⟩
    rw [elC] at he
    simp only [List.cons.injEq, and_true] at he
    rw [he.1, he.2.1, he.2.2.1, he.2.2.2]
    rfl
instance : Inhabited Nd := ⟨⟨0, 0, 0, 0⟩⟩
set_option maxRecDepth 100000 in
theorem nodes_open {H : Type} {enc : TypeId × Value → H} {w : World} {r : Reach} {b0 base : Nat} {sp : Nat → Bool} {hd : Bool} {v : Value} {d : DataW H} {p : List MemPlace} (hval : Value.okWide Try.prog w r b0 22 v)
    (h : DataW.Trod enc Try.prog w base sp hd 22 v d p) : ∃ (oa : Option Addr) (n cap : Nat) (all : List Nd), v = .slice oa n cap ∧ all.length = n ∧ (∀ x ∈ all, x.v < top) ∧ (nodesC all = [] ∨ MCells (wmem w) oa (nodesC all)) := by
  obtain ⟨oa, len, cap, rfl⟩ := okWide_slice u22 hval
  obtain ⟨fuel, hf⟩ := h
  have hf' : DataW.trod enc Try.prog w base sp hd fuel 22 [.slice oa len cap] = some (d, p) := hf
  rcases Go.Deep.open_slice u22 hf' with ⟨h1, _⟩ | ⟨a, len', cap', m, n, D, Pl, h1, _, hlc, _, hmm, _, hx⟩
  · simp only [List.cons.injEq, Value.slice.injEq, and_true] at h1
    obtain ⟨rfl, rfl, rfl⟩ := h1
    exact ⟨none, 0, 0, [], rfl, rfl, by simp, .inl rfl⟩
  · simp only [List.cons.injEq, Value.slice.injEq, and_true] at h1
    obtain ⟨rfl, rfl, rfl⟩ := h1
    have hlm : len ≤ m := by rw [hmm]; split <;> omega
    obtain ⟨f, hfn⟩ := Go.Deep.choose_lt (α := Nd) (n := len) (p := fun i x => x.v < top ∧ w.cells? base (a.add (i * 7)) 7 = some (ndC x)) (fun i hi => by
      obtain ⟨cs', q1, q2⟩ := hx i (by omega)
      rw [c43] at q1
      obtain ⟨_, ql, _⟩ := World.cells?_some q1
      obtain ⟨x, hxt, rfl⟩ := trod_ndC ql q2
      exact ⟨x, hxt, q1⟩)
    refine ⟨some a, len, cap, (List.range len).map f, rfl, by simp, ?_, .inr ⟨a, rfl, ?_⟩⟩
    · intro x hx'
      obtain ⟨i, hi, rfl⟩ := List.mem_map.1 hx'
      exact (hfn i (List.mem_range.1 hi)).1
    · rw [nodesC, List.flatMap_map]
      refine flat_cells (fun i => ndC (f i)) 7 (fun _ => rfl) len fun i hi j v hj => ?_
      obtain ⟨_, _, hc⟩ := World.cells?_some (hfn i hi).2
      have hj7 : j < 7 := (List.getElem?_eq_some_iff.1 hj).1
      have := hc j hj7
      rw [hj, Go.Deep.add_add] at this
      exact this
set_option maxRecDepth 100000 in
theorem els_open {H : Type} {enc : TypeId × Value → H} {w : World} {r : Reach} {b0 base : Nat} {sp : Nat → Bool} {hd : Bool} {v : Value} {d : DataW H} {p : List MemPlace} (hval : Value.okWide Try.prog w r b0 51 v)
    (h : DataW.Trod enc Try.prog w base sp hd 51 v d p) : ∃ (oa : Option Addr) (n cap : Nat) (all : List Nat), v = .slice oa n cap ∧ all.length = n ∧ (∀ x ∈ all, x < top) ∧ (elsC all = [] ∨ MCells (wmem w) oa (elsC all)) := by
  obtain ⟨oa, len, cap, rfl⟩ := okWide_slice u51 hval
  obtain ⟨fuel, hf⟩ := h
  have hf' : DataW.trod enc Try.prog w base sp hd fuel 51 [.slice oa len cap] = some (d, p) := hf
  rcases Go.Deep.open_slice u51 hf' with ⟨h1, _⟩ | ⟨a, len', cap', m, n, D, Pl, h1, _, hlc, _, hmm, _, hx⟩
  · simp only [List.cons.injEq, Value.slice.injEq, and_true] at h1
    obtain ⟨rfl, rfl, rfl⟩ := h1
    exact ⟨none, 0, 0, [], rfl, rfl, by simp, .inl rfl⟩
  · simp only [List.cons.injEq, Value.slice.injEq, and_true] at h1
    obtain ⟨rfl, rfl, rfl⟩ := h1
    have hlm : len ≤ m := by rw [hmm]; split <;> omega
    obtain ⟨f, hfn⟩ := Go.Deep.choose_lt (α := Nat) (n := len) (p := fun i x => x < top ∧ w.cells? base (a.add (i * 4)) 4 = some (elC x)) (fun i hi => by
      obtain ⟨cs', q1, q2⟩ := hx i (by omega)
      rw [c41] at q1
      obtain ⟨_, ql, _⟩ := World.cells?_some q1
      obtain ⟨x, hxt, rfl⟩ := trod_elC ql q2
      exact ⟨x, hxt, q1⟩)
    refine ⟨some a, len, cap, (List.range len).map f, rfl, by simp, ?_, .inr ⟨a, rfl, ?_⟩⟩
    · intro x hx'
      obtain ⟨i, hi, rfl⟩ := List.mem_map.1 hx'
      exact (hfn i (List.mem_range.1 hi)).1
    · rw [elsC, List.flatMap_map]
      refine flat_cells (fun i => elC (f i)) 4 (fun _ => rfl) len fun i hi j v hj => ?_
      obtain ⟨_, _, hc⟩ := World.cells?_some (hfn i hi).2
      have hj7 : j < 4 := (List.getElem?_eq_some_iff.1 hj).1
      have := hc j hj7
      rw [hj, Go.Deep.add_add] at this
      exact this
theorem below_same {B : Nat} {W W' : World} (h : Below B W W') {p : MemPlace} (hp : p.block < B) : W.sameAt W' p := by
  cases p with
  | cell b off =>
    show W'.cell? ⟨b, off, none⟩ = W.cell? ⟨b, off, none⟩
    unfold World.cell?
    rw [h.block b hp]
  | map b => exact h.block b hp
theorem laid : laidOutB Try.prog = true := by kernel_rfl
theorem stays {H : Type} {enc : TypeId × Value → H} {t : TypeId} (hr : Try.prog.readableRec t = true) (ht : t < Try.prog.types.size) {W W' : World} {sp' : Nat → Bool} {v : Value} {d : DataW H} {ps : List MemPlace}
    (h : DataW.Trod enc Try.prog W 0 (fun _ => true) true t v d ps) (hb : Below W.heap.size W W') (hlt : ∀ p ∈ ps, p.block < W.heap.size) (hs : ∀ p ∈ ps, sp' p.block = true) : DataW.Trod enc Try.prog W' 0 sp' true t v d ps :=
  Go.WideElems.Trod_stays laid hr ht h (fun p hp => below_same hb (hlt p hp)) hs
theorem lawEnd {f : FuncId} {args : List Value} {w : World} (h : Calls Try.prog f args.toArray w (fun E w' => ∃ v, E = .returned v ∧ Res.ok w w' (.v (.bool true)) v ∧ Below w.heap.size w w')) :
    Calls Try.prog f args.toArray w (fun E w' => E = .returned (.bool true) ∧ Below w.heap.size w w') :=
  h.mono fun _ _ ⟨_, h1, h2, h3⟩ => ⟨by rw [h1]; exact congrArg _ h2, h3⟩
end Go.Proofs.Ytpghmnpbfaichaa
