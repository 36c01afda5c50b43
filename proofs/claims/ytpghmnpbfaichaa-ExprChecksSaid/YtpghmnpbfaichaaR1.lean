/- A row turned round: the library's contract laid at this program. -/
import Derived.Test.YtpghmnpbfaichaaBase
import Derived.Shelf.Slices.Reverse
import Derived.Test.YtpghmnpbfaichaaE1
namespace Go.Proofs.Ytpghmnpbfaichaa
open Go.Sx Go.Pl Go.RowKit Go.Shelf
def rho : Ren := ⟨fun x => if x = 112 then 51 else x, fun t => if t = 28 then 23 else t, fun x => x⟩
theorem layRev : Lays.n112 Try.prog rho where
  mixed := hm
  f112 := by kernel_rfl
  t0 := by kernel_rfl
  a0 := fun w => prun_sound (by kernel_rfl) w
  z0 := fun w => prun_sound (by kernel_rfl) w
  v0 := fun w => prun_sound (by kernel_rfl) w
  t3 := by kernel_rfl
  a3 := fun w => prun_sound (by kernel_rfl) w
  z3 := fun w => prun_sound (by kernel_rfl) w
  v3 := fun w => prun_sound (by kernel_rfl) w
  t4 := by kernel_rfl
  a4 := fun w => prun_sound (by kernel_rfl) w
  z4 := fun w => prun_sound (by kernel_rfl) w
  v4 := fun w => prun_sound (by kernel_rfl) w
  t28 := by kernel_rfl
  a28 := fun w => prun_sound (by kernel_rfl) w
  z28 := fun w => prun_sound (by kernel_rfl) w
  v28 := fun w => prun_sound (by kernel_rfl) w
end Go.Proofs.Ytpghmnpbfaichaa

namespace Go.Proofs.Ytpghmnpbfaichaa
open Go.Sx Go.Pl Go.RowKit Go.Shelf
theorem putRow_heap (w : World) (g : Nat) (cur : Array Value) (T : TypeId) (z : Nat × Nat) (d : Array Int) (hg : w.heap[g]? = some (.cells cur T z)) :
    (Go.Sort.putRow (Value.int .i64) w g 0 d).heap[g]? = some (.cells (Go.Sort.putCells (Value.int .i64) 0 d cur) T z) := by
  have hlt := (Array.getElem?_eq_some_iff.1 hg).1
  simp only [Go.Sort.putRow, Go.Sort.mapBlock]
  rw [Array.getElem?_modify, if_pos rfl, hg]
  rfl
theorem putCells_take (l : List Int) (cur : Array Value) (h : l.length ≤ cur.size) : (Go.Sort.putCells (Value.int .i64) 0 l.toArray cur).toList.take l.length = intsC l := by
  apply List.ext_getElem?
  intro j
  rw [List.getElem?_take]
  by_cases hj : j < l.length
  · rw [if_pos hj]
    have hjc : j < cur.size := by omega
    simp [Go.Sort.putCells, intsC, hjc, hj]
  · rw [if_neg hj, eq_comm, List.getElem?_eq_none_iff]
    simp only [intsC, List.length_map]
    omega
theorem putCells_size (l : List Int) (cur : Array Value) : (Go.Sort.putCells (Value.int .i64) 0 l.toArray cur).size = cur.size := by simp [Go.Sort.putCells]
theorem Ok.callRev {B : Code} {n : Nat} {F : Mem → Prop} {w0 : World} {fin : Exit → Act → World → Prop} (hF : Mono F) {it it' : It} {k : List It} {st st1 st2 : St} {D : List Dec} {sd : List Side} {dst : Option Nat} {i m : Nat} {l : List Int}
    (hx : xcallAt Try.prog B it st D = some (51, [.o i], st1, sd, dst, it')) (hsd : hold F sd) (hnd : ndIt B it = false)
    (hi : st1.heap[i]? = some (.row 3 1 m (mapv (intsC l)))) (hl : l ≠ []) (hmx : m ≤ 9223372036854775807)
    (hput : put1 n ⟨st1.tm, st1.heap.set i (.row 3 1 m (mapv (intsC l.reverse)))⟩ dst (.v (.tuple #[])) = some st2)
    (h : Ok Try.prog B n F w0 fin (it' :: k) st2) : Ok Try.prog B n F w0 fin (it :: k) st := by
  refine Ok.callG hx hsd fun e a w S T => ?_
  obtain ⟨⟨q1, q2⟩, q3⟩ := S.sat i _ hi
  have hden : denL e (mapv (intsC l)) = intsC l := denL_mapv e _
  rw [hden] at q1 q2
  rw [intsC, List.length_map, Nat.mul_one] at q1
  rcases q2 with ⟨_, hm0⟩ | ⟨g, cap, cur, hv, _, hg, hc1, hc2, hc3, hc4⟩
  · exact absurd (List.eq_nil_of_length_eq_zero (by omega)) hl
  rw [Nat.mul_one] at hc3 hc4
  have hH : Go.Sort.Holds (Value.int .i64) w g 0 l.toArray := by
    intro j hj
    have hj' : j < l.length := by simpa using hj
    constructor
    · have e1 : cur.toList[j]? = some (.int .i64 l[j]) := by
        have := congrArg (fun x => x[j]?) hc4
        simp only [List.getElem?_take] at this
        rw [if_pos (by omega)] at this
        rw [this]
        simp [intsC, hj']
      unfold World.cell?
      simp only [hg, Nat.zero_add]
      rw [Array.getElem?_toList] at e1
      simp [e1, hj']
    · unfold World.frozen?
      simp only [hg]
      simp
  have hcalls := Any.slices_Reverse_int layRev g 0 cap l w hH (by omega)
  have harg : (denL e [.o i]).toArray = #[.slice (some ⟨g, 0, none⟩) l.length cap] := by
    simp only [denL, den]
    rw [hv, q1]
  rw [harg]
  refine hcalls.mono fun E w' hE => ?_
  obtain ⟨rfl, nn, rfl⟩ := hE
  refine ⟨.tuple #[], rfl, (fun hh => by rw [hnd] at hh; cases hh), ?_⟩
  have hgw : (Go.Sort.ahead w nn).heap[g]? = some (.cells cur 3 (0, 0)) := hg
  have S' : SatH F w0 (st1.heap.set i (.row 3 1 m (mapv (intsC l.reverse)))) e (Go.Sort.putRow (Value.int .i64) (Go.Sort.ahead w nn) g 0 l.reverse.toArray) := by
    refine S.turn hF hi g (by simp [HO.own, hv, Value.ownBlock]) (by simp [HO.own, hv, Value.ownBlock]) ?_ (wsL_mapv _ _) ?_ rfl rfl rfl
    · have hden2 : denL e (mapv (intsC l.reverse)) = intsC l.reverse := denL_mapv e _
      simp only [HO.sat, hden2]
      refine ⟨⟨by simp [intsC]; omega, .inr ⟨g, cap, _, hv, Nat.zero_le _, putRow_heap _ g cur 3 (0, 0) _ hgw, hc1, hc2, by rw [putCells_size, Nat.mul_one]; exact hc3, ?_⟩⟩, ?_⟩
      · have := putCells_take l.reverse cur (by rw [List.length_reverse]; omega)
        rw [List.length_reverse, q1] at this
        rw [Nat.mul_one]
        exact this
      · intro u hu
        simp only [intsC, List.mem_map] at hu
        obtain ⟨z, _, rfl⟩ := hu
        rfl
    · intro b hb hne
      show (Array.modify w.heap g _)[b]? = w.heap[b]?
      rw [Array.getElem?_modify, if_neg (fun hh => hne hh.symm)]
  obtain ⟨p1, p2⟩ := put1_sound (st := ⟨st1.tm, st1.heap.set i (.row 3 1 m (mapv (intsC l.reverse)))⟩) (hl' := (st1.heap.set i (.row 3 1 m (mapv (intsC l.reverse)))).length) (v := .tuple #[]) T (agree.refl _ e) (by simp) hput rfl trivial
  exact h e _ _ (by rw [p2]; exact S') (by rw [p2]; exact p1)
end Go.Proofs.Ytpghmnpbfaichaa
