/- What a node is made of. -/
import Derived.Test.YtpghmnpbfaichaaE10
import Derived.Test.YtpghmnpbfaichaaR1
namespace Go.Pl
open Go.Sx
def boolsC (w : List Bool) : List Value := w.map fun b => .bool b
theorem boolsC_length (w : List Bool) : (boolsC w).length = w.length := by simp [boolsC]
theorem boolsC_set (w : List Bool) (j : Nat) (b : Bool) : boolsC (w.set j b) = (boolsC w).set j (.bool b) := by simp [boolsC, List.map_set]
theorem set3 (l : List Value) (v : Value) (j : Nat) (h : j < l.length) : List.take (j * 1) (mapv l) ++ [SV.v v] ++ List.drop (j * 1 + 1) (mapv l) = mapv (l.set j v) := by
  rw [Nat.mul_one, mapv, mapv, List.map_set, List.set_eq_take_append_cons_drop, if_pos (by rw [List.length_map]; exact h)]
  simp
theorem markN_def (l : List Nd) (i : Nat) (w : List Bool) (x : Nd) (hx : l[i]? = some x) (hw : w.getD i false = true) : markN l i w = (usesN x).foldl (fun w j => w.set j.toNat true) w := by
  rw [markN, if_pos hw, hx]; rfl
theorem markN_no (l : List Nd) (i : Nat) (w : List Bool) (hw : w.getD i false = false) : markN l i w = w := by rw [markN, hw]; rfl
theorem foldl_set_len (js : List Int) : ∀ w : List Bool, (js.foldl (fun w j => w.set j.toNat true) w).length = w.length := by
  induction js with
  | nil => intro w; rfl
  | cons j r ih => intro w; rw [List.foldl_cons, ih]; simp
theorem foldl_set_ge (js : List Int) (i : Nat) (h : ∀ j ∈ js, 0 ≤ j ∧ j < (i : Int)) (k : Nat) (hk : i ≤ k) : ∀ w : List Bool, (js.foldl (fun w j => w.set j.toNat true) w).getD k false = w.getD k false := by
  induction js with
  | nil => intro w; rfl
  | cons j r ih =>
    intro w
    have hj := h j List.mem_cons_self
    rw [List.foldl_cons, ih (fun a ha => h a (List.mem_cons_of_mem _ ha))]
    simp only [List.getD_eq_getElem?_getD]
    rw [List.getElem?_set_ne (by omega)]
theorem markN_len (l : List Nd) (i : Nat) (w : List Bool) : (markN l i w).length = w.length := by
  rw [markN]; split
  · exact foldl_set_len _ _
  · rfl
theorem ordN_get {l : List Nd} (h : ordN 0 l = true) (i : Nat) (x : Nd) (hx : l[i]? = some x) : okN i x = true := by
  have hlt := (List.getElem?_eq_some_iff.1 hx).1
  have he : l = l.take i ++ x :: l.drop (i + 1) := by
    have h1 : l.drop i = x :: l.drop (i + 1) := by
      rw [List.drop_eq_getElem_cons hlt]
      rw [(List.getElem?_eq_some_iff.1 hx).2]
    rw [← h1, List.take_append_drop]
  have := ordN_at (l.take i) (l.drop (i + 1)) x 0 (by rw [← he]; exact h)
  rw [List.length_take, Nat.zero_add, Nat.min_eq_left (by omega)] at this
  exact this
theorem markN_ge {l : List Nd} (h : ordN 0 l = true) (i k : Nat) (hk : i ≤ k) (w : List Bool) : (markN l i w).getD k false = w.getD k false := by
  rw [markN]
  split
  · cases hx : l[i]? with
    | none => rfl
    | some x => exact foldl_set_ge _ i (okN_uses (ordN_get h i x hx)) k hk w
  · rfl
theorem marksN_ge {l : List Nd} (h : ordN 0 l = true) (k : Nat) : ∀ (i : Nat) (w : List Bool), i ≤ k + 1 → (marksN l i w).getD k false = w.getD k false
  | 0, w, _ => rfl
  | i + 1, w, hi => by rw [marksN, marksN_ge h k i _ (by omega), markN_ge h i k (by omega)]
/-- The marked places from one on down. -/
def colN (l : List Nd) : Nat → List Bool → List Int → List Int
  | 0, _, out => out
  | i + 1, w, out => if w.getD i false then colN l i (markN l i w) (out ++ [(i : Int)]) else colN l i w out
theorem colN_eq {l : List Nd} (h : ordN 0 l = true) : ∀ (k : Nat) (w : List Bool) (out : List Int),
    colN l k w out = out ++ (((List.range k).filter fun i => (marksN l k w).getD i false).map fun (i : Nat) => (i : Int)).reverse
  | 0, w, out => by simp [colN]
  | k + 1, w, out => by
    have hk : (marksN l k (markN l k w)).getD k false = w.getD k false := by rw [marksN_ge h k k _ (by omega), markN_ge h k k (Nat.le_refl k)]
    rw [colN, List.range_succ, List.filter_append, List.map_append, List.reverse_append]
    simp only [marksN, List.filter_cons, List.filter_nil, hk]
    cases hw : w.getD k false with
    | true =>
      rw [if_pos rfl, colN_eq h k (markN l k w) (out ++ [(k : Int)])]
      simp
    | false =>
      rw [if_neg (by simp), colN_eq h k w out, markN_no l k w hw]
      simp
theorem cone_col {l : List Nd} (h : ordN 0 l = true) (root : Int) (h0 : 0 ≤ root) (h1 : root < (l.length : Int)) :
    coneN l root = (colN l (root.toNat + 1) ((List.replicate l.length false).set root.toNat true) []).reverse := by
  rw [colN_eq h, coneN, if_pos ⟨h, h0, h1⟩]
  simp
noncomputable def cnL (cs : List Value) (r : Int) : List Value := intsC (coneN (unNds cs) r)
noncomputable def cnN (cs : List Value) (r : Int) : Nat := hide (coneN (unNds cs) r).length
end Go.Pl
namespace Go.Proofs.Ytpghmnpbfaichaa
open Go.Sx Go.Pl Go.RowKit
theorem wrap_dec (k : Nat) (h : k < 9223372036854775807) : IntKind.wrap .i64 ((k : Int) - 1) = (k : Int) - 1 := by
  simp only [IntKind.wrap, IntKind.bits, IntKind.signed]
  simp
  omega
theorem cn1c (N m M i : Nat) (cs bs ds : List Value) (z0 z1 z2 z3 : Int) (kt : List It) : ((xgo Try.prog X (bodyOf Try.f21) 74 K10 [([0,1,0,1,1,1,1,0,0,1,0,0,1,0,1,1,1,1,1,1],3)] 80 [.t, .lo 1 (.v (.bool true)), .f, .lo 0 (.v (.iface 102 (.agg #[.int .u64 z0, .int .u64 z1, .int .u64 z2, .int .u64 z3]))), .f] ((.nil)) (.at [0,0,1,0,1,1,1,1,1,1] :: .rnd [0,0,1,0,1,1,1,1,1,1] (M + 1) :: kt) ⟨[(9, .v (.int .i64 (i : Int))), (8, .o 2), (7, .o 1), (5, .o 0), (4, .v (.slice none 0 0))], [.row 82 1 N (mapv cs), .row 4 1 N (mapv bs), .row 3 1 m (mapv ds)]⟩ [] []).map (trims [9, 8, 7, 5, 4])) =
  some [Leaf2.mk [] [fun _ => decide ((0 : Int) ≤ (↑i : Int)) = true,
    fun _ => (0 : Int) ≤ (↑i : Int) ∧ (↑i : Int) < (↑N : Int),
    fun _ => (0 : Nat) < List.length (mapv bs),
    fun _ => (mapv bs)[Int.toNat (↑i : Int) * (1 : Nat)]? = some (SV.v (Value.bool true)),
    fun _ => false = false,
    fun _ => (m + (1 : Nat)) * (8 : Nat) ≤ (140737488355328 : Nat) ∧ m + (1 : Nat) ≤ (140737488355328 : Nat),
    fun _ => (0 : Int) ≤ (↑i : Int) ∧ (↑i : Int) < (↑N : Int),
    fun _ => (0 : Nat) < List.length (mapv cs),
    fun _ => (mapv cs)[Int.toNat (↑i : Int) * (1 : Nat)]? = some (SV.v (Value.iface (102 : Nat) (Value.agg (Array.mk [Value.int IntKind.u64 z0, Value.int IntKind.u64 z1, Value.int IntKind.u64 z2, Value.int IntKind.u64 z3])))),
    fun _ => false = false] (It.rnd [(0 : Nat), (0 : Nat), (1 : Nat), (0 : Nat), (1 : Nat), (1 : Nat), (1 : Nat), (1 : Nat), (1 : Nat), (1 : Nat)] (M + (1 : Nat)) :: kt) (St.mk [((9 : Nat), SV.v (Value.int IntKind.i64 (IntKind.wrap IntKind.i64 ((↑i : Int) - (1 : Int))))), ((8 : Nat), SV.o (4 : Nat)), ((7 : Nat), SV.o (1 : Nat)), ((5 : Nat), SV.o (0 : Nat)), ((4 : Nat), SV.v (Value.slice none (0 : Nat) (0 : Nat)))] [HO.row (82 : Nat) (1 : Nat) N (mapv cs), HO.row (4 : Nat) (1 : Nat) N (mapv bs), HO.gone, HO.row (3 : Nat) (1 : Nat) (1 : Nat) [SV.v (Value.int IntKind.i64 (↑i : Int))], HO.row (3 : Nat) (1 : Nat) (m + (1 : Nat)) (mapv ds ++ [SV.v (Value.int IntKind.i64 (↑i : Int))])])]
  := by kernel_rfl

theorem cn0c (N M i : Nat) (cs bs : List Value) (z0 z1 z2 z3 : Int) (kt : List It) : ((xgo Try.prog X (bodyOf Try.f21) 74 K10 [([0,1,0,1,1,1,1,0,0,1,0,0,1,0,1,1,1,1,1,1],3)] 80 [.t, .lo 1 (.v (.bool true)), .f, .lo 0 (.v (.iface 102 (.agg #[.int .u64 z0, .int .u64 z1, .int .u64 z2, .int .u64 z3]))), .f] ((.nil)) (.at [0,0,1,0,1,1,1,1,1,1] :: .rnd [0,0,1,0,1,1,1,1,1,1] (M + 1) :: kt) ⟨[(9, .v (.int .i64 (i : Int))), (8, .v (.slice none 0 0)), (7, .o 1), (5, .o 0), (4, .v (.slice none 0 0))], [.row 82 1 N (mapv cs), .row 4 1 N (mapv bs)]⟩ [] []).map (trims [9, 8, 7, 5, 4])) =
  some [Leaf2.mk [] [fun _ => decide ((0 : Int) ≤ (↑i : Int)) = true,
    fun _ => (0 : Int) ≤ (↑i : Int) ∧ (↑i : Int) < (↑N : Int),
    fun _ => (0 : Nat) < List.length (mapv bs),
    fun _ => (mapv bs)[Int.toNat (↑i : Int) * (1 : Nat)]? = some (SV.v (Value.bool true)),
    fun _ => false = false,
    fun _ => (8 : Nat) ≤ (140737488355328 : Nat) ∧ (1 : Nat) ≤ (140737488355328 : Nat),
    fun _ => (0 : Int) ≤ (↑i : Int) ∧ (↑i : Int) < (↑N : Int),
    fun _ => (0 : Nat) < List.length (mapv cs),
    fun _ => (mapv cs)[Int.toNat (↑i : Int) * (1 : Nat)]? = some (SV.v (Value.iface (102 : Nat) (Value.agg (Array.mk [Value.int IntKind.u64 z0, Value.int IntKind.u64 z1, Value.int IntKind.u64 z2, Value.int IntKind.u64 z3])))),
    fun _ => false = false] (It.rnd [(0 : Nat), (0 : Nat), (1 : Nat), (0 : Nat), (1 : Nat), (1 : Nat), (1 : Nat), (1 : Nat), (1 : Nat), (1 : Nat)] (M + (1 : Nat)) :: kt) (St.mk [((9 : Nat), SV.v (Value.int IntKind.i64 (IntKind.wrap IntKind.i64 ((↑i : Int) - (1 : Int))))), ((8 : Nat), SV.o (3 : Nat)), ((7 : Nat), SV.o (1 : Nat)), ((5 : Nat), SV.o (0 : Nat)), ((4 : Nat), SV.v (Value.slice none (0 : Nat) (0 : Nat)))] [HO.row (82 : Nat) (1 : Nat) N (mapv cs), HO.row (4 : Nat) (1 : Nat) N (mapv bs), HO.row (3 : Nat) (1 : Nat) (1 : Nat) [SV.v (Value.int IntKind.i64 (↑i : Int))], HO.row (3 : Nat) (1 : Nat) (1 : Nat) [SV.v (Value.int IntKind.i64 (↑i : Int))]])]
  := by kernel_rfl

theorem cn1q (N m M i : Nat) (cs bs ds : List Value) (o x y : Int) (kt : List It) : ((xgo Try.prog X (bodyOf Try.f21) 74 K10 [([0,1,0,1,1,1,1,0,0,1,0,0,1,0,1,1,1,1,1,1],3)] 80 [.t, .lo 1 (.v (.bool true)), .f, .lo 0 (.v (.iface 103 (.agg #[.int .i64 o, .int .i64 x, .int .i64 y]))), .f] ((.nil)) (.at [0,0,1,0,1,1,1,1,1,1] :: .rnd [0,0,1,0,1,1,1,1,1,1] (M + 1) :: kt) ⟨[(9, .v (.int .i64 (i : Int))), (8, .o 2), (7, .o 1), (5, .o 0), (4, .v (.slice none 0 0))], [.row 82 1 N (mapv cs), .row 4 1 N (mapv bs), .row 3 1 m (mapv ds)]⟩ [] []).map (trims [9, 8, 7, 5, 4])) =
  some [Leaf2.mk [] [fun _ => decide ((0 : Int) ≤ (↑i : Int)) = true,
    fun _ => (0 : Int) ≤ (↑i : Int) ∧ (↑i : Int) < (↑N : Int),
    fun _ => (0 : Nat) < List.length (mapv bs),
    fun _ => (mapv bs)[Int.toNat (↑i : Int) * (1 : Nat)]? = some (SV.v (Value.bool true)),
    fun _ => false = false,
    fun _ => (m + (1 : Nat)) * (8 : Nat) ≤ (140737488355328 : Nat) ∧ m + (1 : Nat) ≤ (140737488355328 : Nat),
    fun _ => (0 : Int) ≤ (↑i : Int) ∧ (↑i : Int) < (↑N : Int),
    fun _ => (0 : Nat) < List.length (mapv cs),
    fun _ => (mapv cs)[Int.toNat (↑i : Int) * (1 : Nat)]? = some (SV.v (Value.iface (103 : Nat) (Value.agg (Array.mk [Value.int IntKind.i64 o, Value.int IntKind.i64 x, Value.int IntKind.i64 y])))),
    fun _ => false = false] (It.rnd [(0 : Nat), (0 : Nat), (1 : Nat), (0 : Nat), (1 : Nat), (1 : Nat), (1 : Nat), (1 : Nat), (1 : Nat), (1 : Nat)] (M + (1 : Nat)) :: kt) (St.mk [((9 : Nat), SV.v (Value.int IntKind.i64 (IntKind.wrap IntKind.i64 ((↑i : Int) - (1 : Int))))), ((8 : Nat), SV.o (4 : Nat)), ((7 : Nat), SV.o (1 : Nat)), ((5 : Nat), SV.o (0 : Nat)), ((4 : Nat), SV.v (Value.slice none (0 : Nat) (0 : Nat)))] [HO.row (82 : Nat) (1 : Nat) N (mapv cs), HO.row (4 : Nat) (1 : Nat) N (mapv bs), HO.gone, HO.row (3 : Nat) (1 : Nat) (1 : Nat) [SV.v (Value.int IntKind.i64 (↑i : Int))], HO.row (3 : Nat) (1 : Nat) (m + (1 : Nat)) (mapv ds ++ [SV.v (Value.int IntKind.i64 (↑i : Int))])])]
  := by kernel_rfl

theorem cn0q (N M i : Nat) (cs bs : List Value) (o x y : Int) (kt : List It) : ((xgo Try.prog X (bodyOf Try.f21) 74 K10 [([0,1,0,1,1,1,1,0,0,1,0,0,1,0,1,1,1,1,1,1],3)] 80 [.t, .lo 1 (.v (.bool true)), .f, .lo 0 (.v (.iface 103 (.agg #[.int .i64 o, .int .i64 x, .int .i64 y]))), .f] ((.nil)) (.at [0,0,1,0,1,1,1,1,1,1] :: .rnd [0,0,1,0,1,1,1,1,1,1] (M + 1) :: kt) ⟨[(9, .v (.int .i64 (i : Int))), (8, .v (.slice none 0 0)), (7, .o 1), (5, .o 0), (4, .v (.slice none 0 0))], [.row 82 1 N (mapv cs), .row 4 1 N (mapv bs)]⟩ [] []).map (trims [9, 8, 7, 5, 4])) =
  some [Leaf2.mk [] [fun _ => decide ((0 : Int) ≤ (↑i : Int)) = true,
    fun _ => (0 : Int) ≤ (↑i : Int) ∧ (↑i : Int) < (↑N : Int),
    fun _ => (0 : Nat) < List.length (mapv bs),
    fun _ => (mapv bs)[Int.toNat (↑i : Int) * (1 : Nat)]? = some (SV.v (Value.bool true)),
    fun _ => false = false,
    fun _ => (8 : Nat) ≤ (140737488355328 : Nat) ∧ (1 : Nat) ≤ (140737488355328 : Nat),
    fun _ => (0 : Int) ≤ (↑i : Int) ∧ (↑i : Int) < (↑N : Int),
    fun _ => (0 : Nat) < List.length (mapv cs),
    fun _ => (mapv cs)[Int.toNat (↑i : Int) * (1 : Nat)]? = some (SV.v (Value.iface (103 : Nat) (Value.agg (Array.mk [Value.int IntKind.i64 o, Value.int IntKind.i64 x, Value.int IntKind.i64 y])))),
    fun _ => false = false] (It.rnd [(0 : Nat), (0 : Nat), (1 : Nat), (0 : Nat), (1 : Nat), (1 : Nat), (1 : Nat), (1 : Nat), (1 : Nat), (1 : Nat)] (M + (1 : Nat)) :: kt) (St.mk [((9 : Nat), SV.v (Value.int IntKind.i64 (IntKind.wrap IntKind.i64 ((↑i : Int) - (1 : Int))))), ((8 : Nat), SV.o (3 : Nat)), ((7 : Nat), SV.o (1 : Nat)), ((5 : Nat), SV.o (0 : Nat)), ((4 : Nat), SV.v (Value.slice none (0 : Nat) (0 : Nat)))] [HO.row (82 : Nat) (1 : Nat) N (mapv cs), HO.row (4 : Nat) (1 : Nat) N (mapv bs), HO.row (3 : Nat) (1 : Nat) (1 : Nat) [SV.v (Value.int IntKind.i64 (↑i : Int))], HO.row (3 : Nat) (1 : Nat) (1 : Nat) [SV.v (Value.int IntKind.i64 (↑i : Int))]])]
  := by kernel_rfl

theorem cn1n (N m M i : Nat) (cs bs ds : List Value) (x : Int) (kt : List It) : ((xgo Try.prog X (bodyOf Try.f21) 74 K10 [([0,1,0,1,1,1,1,0,0,1,0,0,1,0,1,1,1,1,1,1],3)] 80 [.t, .lo 1 (.v (.bool true)), .f, .lo 0 (.v (.iface 129 (.agg #[.int .i64 x]))), .t, .t, .f] ((.nil)) (.at [0,0,1,0,1,1,1,1,1,1] :: .rnd [0,0,1,0,1,1,1,1,1,1] (M + 1) :: kt) ⟨[(9, .v (.int .i64 (i : Int))), (8, .o 2), (7, .o 1), (5, .o 0), (4, .v (.slice none 0 0))], [.row 82 1 N (mapv cs), .row 4 1 N (mapv bs), .row 3 1 m (mapv ds)]⟩ [] []).map (trims [9, 8, 7, 5, 4])) =
  some [Leaf2.mk [] [fun _ => decide ((0 : Int) ≤ (↑i : Int)) = true,
    fun _ => (0 : Int) ≤ (↑i : Int) ∧ (↑i : Int) < (↑N : Int),
    fun _ => (0 : Nat) < List.length (mapv bs),
    fun _ => (mapv bs)[Int.toNat (↑i : Int) * (1 : Nat)]? = some (SV.v (Value.bool true)),
    fun _ => false = false,
    fun _ => (m + (1 : Nat)) * (8 : Nat) ≤ (140737488355328 : Nat) ∧ m + (1 : Nat) ≤ (140737488355328 : Nat),
    fun _ => (0 : Int) ≤ (↑i : Int) ∧ (↑i : Int) < (↑N : Int),
    fun _ => (0 : Nat) < List.length (mapv cs),
    fun _ => (mapv cs)[Int.toNat (↑i : Int) * (1 : Nat)]? = some (SV.v (Value.iface (129 : Nat) (Value.agg (Array.mk [Value.int IntKind.i64 x])))),
    fun _ => true = true,
    fun _ => True,
    fun _ => true = true,
    fun _ => (0 : Int) ≤ (0 : Int) ∧ (0 : Int) < (1 : Int),
    fun _ => (0 : Nat) < (1 : Nat),
    fun _ => (0 : Int) ≤ x ∧ x < (↑N : Int),
    fun _ => (0 : Nat) < List.length (mapv bs) ∧ Int.toNat x * (1 : Nat) + (1 : Nat) ≤ List.length (mapv bs),
    fun _ => false = false] (It.rnd [(0 : Nat), (0 : Nat), (1 : Nat), (0 : Nat), (1 : Nat), (1 : Nat), (1 : Nat), (1 : Nat), (1 : Nat), (1 : Nat)] (M + (1 : Nat)) :: kt) (St.mk [((9 : Nat), SV.v (Value.int IntKind.i64 (IntKind.wrap IntKind.i64 ((↑i : Int) - (1 : Int))))), ((8 : Nat), SV.o (4 : Nat)), ((7 : Nat), SV.o (1 : Nat)), ((5 : Nat), SV.o (0 : Nat)), ((4 : Nat), SV.v (Value.slice none (0 : Nat) (0 : Nat)))] [HO.row (82 : Nat) (1 : Nat) N (mapv cs), HO.row (4 : Nat) (1 : Nat) N (List.take (Int.toNat x * (1 : Nat)) (mapv bs) ++ [SV.v (Value.bool true)] ++ List.drop (Int.toNat x * (1 : Nat) + (1 : Nat)) (mapv bs)), HO.gone, HO.row (3 : Nat) (1 : Nat) (1 : Nat) [SV.v (Value.int IntKind.i64 (↑i : Int))], HO.row (3 : Nat) (1 : Nat) (m + (1 : Nat)) (mapv ds ++ [SV.v (Value.int IntKind.i64 (↑i : Int))]), HO.row (3 : Nat) (1 : Nat) (1 : Nat) [SV.v (Value.int IntKind.i64 x)]])]
  := by kernel_rfl

theorem cn0n (N M i : Nat) (cs bs : List Value) (x : Int) (kt : List It) : ((xgo Try.prog X (bodyOf Try.f21) 74 K10 [([0,1,0,1,1,1,1,0,0,1,0,0,1,0,1,1,1,1,1,1],3)] 80 [.t, .lo 1 (.v (.bool true)), .f, .lo 0 (.v (.iface 129 (.agg #[.int .i64 x]))), .t, .t, .f] ((.nil)) (.at [0,0,1,0,1,1,1,1,1,1] :: .rnd [0,0,1,0,1,1,1,1,1,1] (M + 1) :: kt) ⟨[(9, .v (.int .i64 (i : Int))), (8, .v (.slice none 0 0)), (7, .o 1), (5, .o 0), (4, .v (.slice none 0 0))], [.row 82 1 N (mapv cs), .row 4 1 N (mapv bs)]⟩ [] []).map (trims [9, 8, 7, 5, 4])) =
  some [Leaf2.mk [] [fun _ => decide ((0 : Int) ≤ (↑i : Int)) = true,
    fun _ => (0 : Int) ≤ (↑i : Int) ∧ (↑i : Int) < (↑N : Int),
    fun _ => (0 : Nat) < List.length (mapv bs),
    fun _ => (mapv bs)[Int.toNat (↑i : Int) * (1 : Nat)]? = some (SV.v (Value.bool true)),
    fun _ => false = false,
    fun _ => (8 : Nat) ≤ (140737488355328 : Nat) ∧ (1 : Nat) ≤ (140737488355328 : Nat),
    fun _ => (0 : Int) ≤ (↑i : Int) ∧ (↑i : Int) < (↑N : Int),
    fun _ => (0 : Nat) < List.length (mapv cs),
    fun _ => (mapv cs)[Int.toNat (↑i : Int) * (1 : Nat)]? = some (SV.v (Value.iface (129 : Nat) (Value.agg (Array.mk [Value.int IntKind.i64 x])))),
    fun _ => true = true,
    fun _ => True,
    fun _ => true = true,
    fun _ => (0 : Int) ≤ (0 : Int) ∧ (0 : Int) < (1 : Int),
    fun _ => (0 : Nat) < (1 : Nat),
    fun _ => (0 : Int) ≤ x ∧ x < (↑N : Int),
    fun _ => (0 : Nat) < List.length (mapv bs) ∧ Int.toNat x * (1 : Nat) + (1 : Nat) ≤ List.length (mapv bs),
    fun _ => false = false] (It.rnd [(0 : Nat), (0 : Nat), (1 : Nat), (0 : Nat), (1 : Nat), (1 : Nat), (1 : Nat), (1 : Nat), (1 : Nat), (1 : Nat)] (M + (1 : Nat)) :: kt) (St.mk [((9 : Nat), SV.v (Value.int IntKind.i64 (IntKind.wrap IntKind.i64 ((↑i : Int) - (1 : Int))))), ((8 : Nat), SV.o (3 : Nat)), ((7 : Nat), SV.o (1 : Nat)), ((5 : Nat), SV.o (0 : Nat)), ((4 : Nat), SV.v (Value.slice none (0 : Nat) (0 : Nat)))] [HO.row (82 : Nat) (1 : Nat) N (mapv cs), HO.row (4 : Nat) (1 : Nat) N (List.take (Int.toNat x * (1 : Nat)) (mapv bs) ++ [SV.v (Value.bool true)] ++ List.drop (Int.toNat x * (1 : Nat) + (1 : Nat)) (mapv bs)), HO.row (3 : Nat) (1 : Nat) (1 : Nat) [SV.v (Value.int IntKind.i64 (↑i : Int))], HO.row (3 : Nat) (1 : Nat) (1 : Nat) [SV.v (Value.int IntKind.i64 (↑i : Int))], HO.row (3 : Nat) (1 : Nat) (1 : Nat) [SV.v (Value.int IntKind.i64 x)]])]
  := by kernel_rfl

theorem cn1a (N m M i : Nat) (cs bs ds : List Value) (x y : Int) (kt : List It) : ((xgo Try.prog X (bodyOf Try.f21) 74 K10 [([0,1,0,1,1,1,1,0,0,1,0,0,1,0,1,1,1,1,1,1],3)] 80 [.t, .lo 1 (.v (.bool true)), .f, .lo 0 (.v (.iface 131 (.agg #[.int .i64 x, .int .i64 y]))), .t, .t, .t, .f] ((.nil)) (.at [0,0,1,0,1,1,1,1,1,1] :: .rnd [0,0,1,0,1,1,1,1,1,1] (M + 1) :: kt) ⟨[(9, .v (.int .i64 (i : Int))), (8, .o 2), (7, .o 1), (5, .o 0), (4, .v (.slice none 0 0))], [.row 82 1 N (mapv cs), .row 4 1 N (mapv bs), .row 3 1 m (mapv ds)]⟩ [] []).map (trims [9, 8, 7, 5, 4])) =
  some [Leaf2.mk [] [fun _ => decide ((0 : Int) ≤ (↑i : Int)) = true,
    fun _ => (0 : Int) ≤ (↑i : Int) ∧ (↑i : Int) < (↑N : Int),
    fun _ => (0 : Nat) < List.length (mapv bs),
    fun _ => (mapv bs)[Int.toNat (↑i : Int) * (1 : Nat)]? = some (SV.v (Value.bool true)),
    fun _ => false = false,
    fun _ => (m + (1 : Nat)) * (8 : Nat) ≤ (140737488355328 : Nat) ∧ m + (1 : Nat) ≤ (140737488355328 : Nat),
    fun _ => (0 : Int) ≤ (↑i : Int) ∧ (↑i : Int) < (↑N : Int),
    fun _ => (0 : Nat) < List.length (mapv cs),
    fun _ => (mapv cs)[Int.toNat (↑i : Int) * (1 : Nat)]? = some (SV.v (Value.iface (131 : Nat) (Value.agg (Array.mk [Value.int IntKind.i64 x, Value.int IntKind.i64 y])))),
    fun _ => true = true,
    fun _ => True,
    fun _ => true = true,
    fun _ => (0 : Int) ≤ (0 : Int) ∧ (0 : Int) < (2 : Int),
    fun _ => (0 : Nat) < (2 : Nat),
    fun _ => (0 : Int) ≤ x ∧ x < (↑N : Int),
    fun _ => (0 : Nat) < List.length (mapv bs) ∧ Int.toNat x * (1 : Nat) + (1 : Nat) ≤ List.length (mapv bs),
    fun _ => true = true,
    fun _ => (0 : Int) ≤ (1 : Int) ∧ (1 : Int) < (2 : Int),
    fun _ => (0 : Nat) < (2 : Nat),
    fun _ => (0 : Int) ≤ y ∧ y < (↑N : Int),
    fun _ => (0 : Nat) < List.length (List.take (Int.toNat x * (1 : Nat)) (mapv bs) ++ [SV.v (Value.bool true)] ++ List.drop (Int.toNat x * (1 : Nat) + (1 : Nat)) (mapv bs)) ∧ Int.toNat y * (1 : Nat) + (1 : Nat) ≤ List.length (List.take (Int.toNat x * (1 : Nat)) (mapv bs) ++ [SV.v (Value.bool true)] ++ List.drop (Int.toNat x * (1 : Nat) + (1 : Nat)) (mapv bs)),
    fun _ => false = false] (It.rnd [(0 : Nat), (0 : Nat), (1 : Nat), (0 : Nat), (1 : Nat), (1 : Nat), (1 : Nat), (1 : Nat), (1 : Nat), (1 : Nat)] (M + (1 : Nat)) :: kt) (St.mk [((9 : Nat), SV.v (Value.int IntKind.i64 (IntKind.wrap IntKind.i64 ((↑i : Int) - (1 : Int))))), ((8 : Nat), SV.o (4 : Nat)), ((7 : Nat), SV.o (1 : Nat)), ((5 : Nat), SV.o (0 : Nat)), ((4 : Nat), SV.v (Value.slice none (0 : Nat) (0 : Nat)))] [HO.row (82 : Nat) (1 : Nat) N (mapv cs), HO.row (4 : Nat) (1 : Nat) N (List.take (Int.toNat y * (1 : Nat)) (List.take (Int.toNat x * (1 : Nat)) (mapv bs) ++ [SV.v (Value.bool true)] ++ List.drop (Int.toNat x * (1 : Nat) + (1 : Nat)) (mapv bs)) ++ [SV.v (Value.bool true)] ++ List.drop (Int.toNat y * (1 : Nat) + (1 : Nat)) (List.take (Int.toNat x * (1 : Nat)) (mapv bs) ++ [SV.v (Value.bool true)] ++ List.drop (Int.toNat x * (1 : Nat) + (1 : Nat)) (mapv bs))), HO.gone, HO.row (3 : Nat) (1 : Nat) (1 : Nat) [SV.v (Value.int IntKind.i64 (↑i : Int))], HO.row (3 : Nat) (1 : Nat) (m + (1 : Nat)) (mapv ds ++ [SV.v (Value.int IntKind.i64 (↑i : Int))]), HO.row (3 : Nat) (1 : Nat) (2 : Nat) [SV.v (Value.int IntKind.i64 x), SV.v (Value.int IntKind.i64 y)]])]
  := by kernel_rfl

theorem cn0a (N M i : Nat) (cs bs : List Value) (x y : Int) (kt : List It) : ((xgo Try.prog X (bodyOf Try.f21) 74 K10 [([0,1,0,1,1,1,1,0,0,1,0,0,1,0,1,1,1,1,1,1],3)] 80 [.t, .lo 1 (.v (.bool true)), .f, .lo 0 (.v (.iface 131 (.agg #[.int .i64 x, .int .i64 y]))), .t, .t, .t, .f] ((.nil)) (.at [0,0,1,0,1,1,1,1,1,1] :: .rnd [0,0,1,0,1,1,1,1,1,1] (M + 1) :: kt) ⟨[(9, .v (.int .i64 (i : Int))), (8, .v (.slice none 0 0)), (7, .o 1), (5, .o 0), (4, .v (.slice none 0 0))], [.row 82 1 N (mapv cs), .row 4 1 N (mapv bs)]⟩ [] []).map (trims [9, 8, 7, 5, 4])) =
  some [Leaf2.mk [] [fun _ => decide ((0 : Int) ≤ (↑i : Int)) = true,
    fun _ => (0 : Int) ≤ (↑i : Int) ∧ (↑i : Int) < (↑N : Int),
    fun _ => (0 : Nat) < List.length (mapv bs),
    fun _ => (mapv bs)[Int.toNat (↑i : Int) * (1 : Nat)]? = some (SV.v (Value.bool true)),
    fun _ => false = false,
    fun _ => (8 : Nat) ≤ (140737488355328 : Nat) ∧ (1 : Nat) ≤ (140737488355328 : Nat),
    fun _ => (0 : Int) ≤ (↑i : Int) ∧ (↑i : Int) < (↑N : Int),
    fun _ => (0 : Nat) < List.length (mapv cs),
    fun _ => (mapv cs)[Int.toNat (↑i : Int) * (1 : Nat)]? = some (SV.v (Value.iface (131 : Nat) (Value.agg (Array.mk [Value.int IntKind.i64 x, Value.int IntKind.i64 y])))),
    fun _ => true = true,
    fun _ => True,
    fun _ => true = true,
    fun _ => (0 : Int) ≤ (0 : Int) ∧ (0 : Int) < (2 : Int),
    fun _ => (0 : Nat) < (2 : Nat),
    fun _ => (0 : Int) ≤ x ∧ x < (↑N : Int),
    fun _ => (0 : Nat) < List.length (mapv bs) ∧ Int.toNat x * (1 : Nat) + (1 : Nat) ≤ List.length (mapv bs),
    fun _ => true = true,
    fun _ => (0 : Int) ≤ (1 : Int) ∧ (1 : Int) < (2 : Int),
    fun _ => (0 : Nat) < (2 : Nat),
    fun _ => (0 : Int) ≤ y ∧ y < (↑N : Int),
    fun _ => (0 : Nat) < List.length (List.take (Int.toNat x * (1 : Nat)) (mapv bs) ++ [SV.v (Value.bool true)] ++ List.drop (Int.toNat x * (1 : Nat) + (1 : Nat)) (mapv bs)) ∧ Int.toNat y * (1 : Nat) + (1 : Nat) ≤ List.length (List.take (Int.toNat x * (1 : Nat)) (mapv bs) ++ [SV.v (Value.bool true)] ++ List.drop (Int.toNat x * (1 : Nat) + (1 : Nat)) (mapv bs)),
    fun _ => false = false] (It.rnd [(0 : Nat), (0 : Nat), (1 : Nat), (0 : Nat), (1 : Nat), (1 : Nat), (1 : Nat), (1 : Nat), (1 : Nat), (1 : Nat)] (M + (1 : Nat)) :: kt) (St.mk [((9 : Nat), SV.v (Value.int IntKind.i64 (IntKind.wrap IntKind.i64 ((↑i : Int) - (1 : Int))))), ((8 : Nat), SV.o (3 : Nat)), ((7 : Nat), SV.o (1 : Nat)), ((5 : Nat), SV.o (0 : Nat)), ((4 : Nat), SV.v (Value.slice none (0 : Nat) (0 : Nat)))] [HO.row (82 : Nat) (1 : Nat) N (mapv cs), HO.row (4 : Nat) (1 : Nat) N (List.take (Int.toNat y * (1 : Nat)) (List.take (Int.toNat x * (1 : Nat)) (mapv bs) ++ [SV.v (Value.bool true)] ++ List.drop (Int.toNat x * (1 : Nat) + (1 : Nat)) (mapv bs)) ++ [SV.v (Value.bool true)] ++ List.drop (Int.toNat y * (1 : Nat) + (1 : Nat)) (List.take (Int.toNat x * (1 : Nat)) (mapv bs) ++ [SV.v (Value.bool true)] ++ List.drop (Int.toNat x * (1 : Nat) + (1 : Nat)) (mapv bs))), HO.row (3 : Nat) (1 : Nat) (1 : Nat) [SV.v (Value.int IntKind.i64 (↑i : Int))], HO.row (3 : Nat) (1 : Nat) (1 : Nat) [SV.v (Value.int IntKind.i64 (↑i : Int))], HO.row (3 : Nat) (1 : Nat) (2 : Nat) [SV.v (Value.int IntKind.i64 x), SV.v (Value.int IntKind.i64 y)]])]
  := by kernel_rfl

theorem cn1m (N m M i : Nat) (cs bs ds : List Value) (x y : Int) (kt : List It) : ((xgo Try.prog X (bodyOf Try.f21) 74 K10 [([0,1,0,1,1,1,1,0,0,1,0,0,1,0,1,1,1,1,1,1],3)] 80 [.t, .lo 1 (.v (.bool true)), .f, .lo 0 (.v (.iface 132 (.agg #[.int .i64 x, .int .i64 y]))), .t, .t, .t, .f] ((.nil)) (.at [0,0,1,0,1,1,1,1,1,1] :: .rnd [0,0,1,0,1,1,1,1,1,1] (M + 1) :: kt) ⟨[(9, .v (.int .i64 (i : Int))), (8, .o 2), (7, .o 1), (5, .o 0), (4, .v (.slice none 0 0))], [.row 82 1 N (mapv cs), .row 4 1 N (mapv bs), .row 3 1 m (mapv ds)]⟩ [] []).map (trims [9, 8, 7, 5, 4])) =
  some [Leaf2.mk [] [fun _ => decide ((0 : Int) ≤ (↑i : Int)) = true,
    fun _ => (0 : Int) ≤ (↑i : Int) ∧ (↑i : Int) < (↑N : Int),
    fun _ => (0 : Nat) < List.length (mapv bs),
    fun _ => (mapv bs)[Int.toNat (↑i : Int) * (1 : Nat)]? = some (SV.v (Value.bool true)),
    fun _ => false = false,
    fun _ => (m + (1 : Nat)) * (8 : Nat) ≤ (140737488355328 : Nat) ∧ m + (1 : Nat) ≤ (140737488355328 : Nat),
    fun _ => (0 : Int) ≤ (↑i : Int) ∧ (↑i : Int) < (↑N : Int),
    fun _ => (0 : Nat) < List.length (mapv cs),
    fun _ => (mapv cs)[Int.toNat (↑i : Int) * (1 : Nat)]? = some (SV.v (Value.iface (132 : Nat) (Value.agg (Array.mk [Value.int IntKind.i64 x, Value.int IntKind.i64 y])))),
    fun _ => true = true,
    fun _ => True,
    fun _ => true = true,
    fun _ => (0 : Int) ≤ (0 : Int) ∧ (0 : Int) < (2 : Int),
    fun _ => (0 : Nat) < (2 : Nat),
    fun _ => (0 : Int) ≤ x ∧ x < (↑N : Int),
    fun _ => (0 : Nat) < List.length (mapv bs) ∧ Int.toNat x * (1 : Nat) + (1 : Nat) ≤ List.length (mapv bs),
    fun _ => true = true,
    fun _ => (0 : Int) ≤ (1 : Int) ∧ (1 : Int) < (2 : Int),
    fun _ => (0 : Nat) < (2 : Nat),
    fun _ => (0 : Int) ≤ y ∧ y < (↑N : Int),
    fun _ => (0 : Nat) < List.length (List.take (Int.toNat x * (1 : Nat)) (mapv bs) ++ [SV.v (Value.bool true)] ++ List.drop (Int.toNat x * (1 : Nat) + (1 : Nat)) (mapv bs)) ∧ Int.toNat y * (1 : Nat) + (1 : Nat) ≤ List.length (List.take (Int.toNat x * (1 : Nat)) (mapv bs) ++ [SV.v (Value.bool true)] ++ List.drop (Int.toNat x * (1 : Nat) + (1 : Nat)) (mapv bs)),
    fun _ => false = false] (It.rnd [(0 : Nat), (0 : Nat), (1 : Nat), (0 : Nat), (1 : Nat), (1 : Nat), (1 : Nat), (1 : Nat), (1 : Nat), (1 : Nat)] (M + (1 : Nat)) :: kt) (St.mk [((9 : Nat), SV.v (Value.int IntKind.i64 (IntKind.wrap IntKind.i64 ((↑i : Int) - (1 : Int))))), ((8 : Nat), SV.o (4 : Nat)), ((7 : Nat), SV.o (1 : Nat)), ((5 : Nat), SV.o (0 : Nat)), ((4 : Nat), SV.v (Value.slice none (0 : Nat) (0 : Nat)))] [HO.row (82 : Nat) (1 : Nat) N (mapv cs), HO.row (4 : Nat) (1 : Nat) N (List.take (Int.toNat y * (1 : Nat)) (List.take (Int.toNat x * (1 : Nat)) (mapv bs) ++ [SV.v (Value.bool true)] ++ List.drop (Int.toNat x * (1 : Nat) + (1 : Nat)) (mapv bs)) ++ [SV.v (Value.bool true)] ++ List.drop (Int.toNat y * (1 : Nat) + (1 : Nat)) (List.take (Int.toNat x * (1 : Nat)) (mapv bs) ++ [SV.v (Value.bool true)] ++ List.drop (Int.toNat x * (1 : Nat) + (1 : Nat)) (mapv bs))), HO.gone, HO.row (3 : Nat) (1 : Nat) (1 : Nat) [SV.v (Value.int IntKind.i64 (↑i : Int))], HO.row (3 : Nat) (1 : Nat) (m + (1 : Nat)) (mapv ds ++ [SV.v (Value.int IntKind.i64 (↑i : Int))]), HO.row (3 : Nat) (1 : Nat) (2 : Nat) [SV.v (Value.int IntKind.i64 x), SV.v (Value.int IntKind.i64 y)]])]
  := by kernel_rfl

theorem cn0m (N M i : Nat) (cs bs : List Value) (x y : Int) (kt : List It) : ((xgo Try.prog X (bodyOf Try.f21) 74 K10 [([0,1,0,1,1,1,1,0,0,1,0,0,1,0,1,1,1,1,1,1],3)] 80 [.t, .lo 1 (.v (.bool true)), .f, .lo 0 (.v (.iface 132 (.agg #[.int .i64 x, .int .i64 y]))), .t, .t, .t, .f] ((.nil)) (.at [0,0,1,0,1,1,1,1,1,1] :: .rnd [0,0,1,0,1,1,1,1,1,1] (M + 1) :: kt) ⟨[(9, .v (.int .i64 (i : Int))), (8, .v (.slice none 0 0)), (7, .o 1), (5, .o 0), (4, .v (.slice none 0 0))], [.row 82 1 N (mapv cs), .row 4 1 N (mapv bs)]⟩ [] []).map (trims [9, 8, 7, 5, 4])) =
  some [Leaf2.mk [] [fun _ => decide ((0 : Int) ≤ (↑i : Int)) = true,
    fun _ => (0 : Int) ≤ (↑i : Int) ∧ (↑i : Int) < (↑N : Int),
    fun _ => (0 : Nat) < List.length (mapv bs),
    fun _ => (mapv bs)[Int.toNat (↑i : Int) * (1 : Nat)]? = some (SV.v (Value.bool true)),
    fun _ => false = false,
    fun _ => (8 : Nat) ≤ (140737488355328 : Nat) ∧ (1 : Nat) ≤ (140737488355328 : Nat),
    fun _ => (0 : Int) ≤ (↑i : Int) ∧ (↑i : Int) < (↑N : Int),
    fun _ => (0 : Nat) < List.length (mapv cs),
    fun _ => (mapv cs)[Int.toNat (↑i : Int) * (1 : Nat)]? = some (SV.v (Value.iface (132 : Nat) (Value.agg (Array.mk [Value.int IntKind.i64 x, Value.int IntKind.i64 y])))),
    fun _ => true = true,
    fun _ => True,
    fun _ => true = true,
    fun _ => (0 : Int) ≤ (0 : Int) ∧ (0 : Int) < (2 : Int),
    fun _ => (0 : Nat) < (2 : Nat),
    fun _ => (0 : Int) ≤ x ∧ x < (↑N : Int),
    fun _ => (0 : Nat) < List.length (mapv bs) ∧ Int.toNat x * (1 : Nat) + (1 : Nat) ≤ List.length (mapv bs),
    fun _ => true = true,
    fun _ => (0 : Int) ≤ (1 : Int) ∧ (1 : Int) < (2 : Int),
    fun _ => (0 : Nat) < (2 : Nat),
    fun _ => (0 : Int) ≤ y ∧ y < (↑N : Int),
    fun _ => (0 : Nat) < List.length (List.take (Int.toNat x * (1 : Nat)) (mapv bs) ++ [SV.v (Value.bool true)] ++ List.drop (Int.toNat x * (1 : Nat) + (1 : Nat)) (mapv bs)) ∧ Int.toNat y * (1 : Nat) + (1 : Nat) ≤ List.length (List.take (Int.toNat x * (1 : Nat)) (mapv bs) ++ [SV.v (Value.bool true)] ++ List.drop (Int.toNat x * (1 : Nat) + (1 : Nat)) (mapv bs)),
    fun _ => false = false] (It.rnd [(0 : Nat), (0 : Nat), (1 : Nat), (0 : Nat), (1 : Nat), (1 : Nat), (1 : Nat), (1 : Nat), (1 : Nat), (1 : Nat)] (M + (1 : Nat)) :: kt) (St.mk [((9 : Nat), SV.v (Value.int IntKind.i64 (IntKind.wrap IntKind.i64 ((↑i : Int) - (1 : Int))))), ((8 : Nat), SV.o (3 : Nat)), ((7 : Nat), SV.o (1 : Nat)), ((5 : Nat), SV.o (0 : Nat)), ((4 : Nat), SV.v (Value.slice none (0 : Nat) (0 : Nat)))] [HO.row (82 : Nat) (1 : Nat) N (mapv cs), HO.row (4 : Nat) (1 : Nat) N (List.take (Int.toNat y * (1 : Nat)) (List.take (Int.toNat x * (1 : Nat)) (mapv bs) ++ [SV.v (Value.bool true)] ++ List.drop (Int.toNat x * (1 : Nat) + (1 : Nat)) (mapv bs)) ++ [SV.v (Value.bool true)] ++ List.drop (Int.toNat y * (1 : Nat) + (1 : Nat)) (List.take (Int.toNat x * (1 : Nat)) (mapv bs) ++ [SV.v (Value.bool true)] ++ List.drop (Int.toNat x * (1 : Nat) + (1 : Nat)) (mapv bs))), HO.row (3 : Nat) (1 : Nat) (1 : Nat) [SV.v (Value.int IntKind.i64 (↑i : Int))], HO.row (3 : Nat) (1 : Nat) (1 : Nat) [SV.v (Value.int IntKind.i64 (↑i : Int))], HO.row (3 : Nat) (1 : Nat) (2 : Nat) [SV.v (Value.int IntKind.i64 x), SV.v (Value.int IntKind.i64 y)]])]
  := by kernel_rfl

theorem cn1s (N m M i : Nat) (cs bs ds : List Value) (x z0 z1 z2 z3 : Int) (kt : List It) : ((xgo Try.prog X (bodyOf Try.f21) 74 K10 [([0,1,0,1,1,1,1,0,0,1,0,0,1,0,1,1,1,1,1,1],3)] 80 [.t, .lo 1 (.v (.bool true)), .f, .lo 0 (.v (.iface 134 (.agg #[.int .i64 x, .int .u64 z0, .int .u64 z1, .int .u64 z2, .int .u64 z3]))), .t, .t, .f] ((.nil)) (.at [0,0,1,0,1,1,1,1,1,1] :: .rnd [0,0,1,0,1,1,1,1,1,1] (M + 1) :: kt) ⟨[(9, .v (.int .i64 (i : Int))), (8, .o 2), (7, .o 1), (5, .o 0), (4, .v (.slice none 0 0))], [.row 82 1 N (mapv cs), .row 4 1 N (mapv bs), .row 3 1 m (mapv ds)]⟩ [] []).map (trims [9, 8, 7, 5, 4])) =
  some [Leaf2.mk [] [fun _ => decide ((0 : Int) ≤ (↑i : Int)) = true,
    fun _ => (0 : Int) ≤ (↑i : Int) ∧ (↑i : Int) < (↑N : Int),
    fun _ => (0 : Nat) < List.length (mapv bs),
    fun _ => (mapv bs)[Int.toNat (↑i : Int) * (1 : Nat)]? = some (SV.v (Value.bool true)),
    fun _ => false = false,
    fun _ => (m + (1 : Nat)) * (8 : Nat) ≤ (140737488355328 : Nat) ∧ m + (1 : Nat) ≤ (140737488355328 : Nat),
    fun _ => (0 : Int) ≤ (↑i : Int) ∧ (↑i : Int) < (↑N : Int),
    fun _ => (0 : Nat) < List.length (mapv cs),
    fun _ => (mapv cs)[Int.toNat (↑i : Int) * (1 : Nat)]? = some (SV.v (Value.iface (134 : Nat) (Value.agg (Array.mk [Value.int IntKind.i64 x, Value.int IntKind.u64 z0, Value.int IntKind.u64 z1, Value.int IntKind.u64 z2, Value.int IntKind.u64 z3])))),
    fun _ => true = true,
    fun _ => True,
    fun _ => true = true,
    fun _ => (0 : Int) ≤ (0 : Int) ∧ (0 : Int) < (1 : Int),
    fun _ => (0 : Nat) < (1 : Nat),
    fun _ => (0 : Int) ≤ x ∧ x < (↑N : Int),
    fun _ => (0 : Nat) < List.length (mapv bs) ∧ Int.toNat x * (1 : Nat) + (1 : Nat) ≤ List.length (mapv bs),
    fun _ => false = false] (It.rnd [(0 : Nat), (0 : Nat), (1 : Nat), (0 : Nat), (1 : Nat), (1 : Nat), (1 : Nat), (1 : Nat), (1 : Nat), (1 : Nat)] (M + (1 : Nat)) :: kt) (St.mk [((9 : Nat), SV.v (Value.int IntKind.i64 (IntKind.wrap IntKind.i64 ((↑i : Int) - (1 : Int))))), ((8 : Nat), SV.o (4 : Nat)), ((7 : Nat), SV.o (1 : Nat)), ((5 : Nat), SV.o (0 : Nat)), ((4 : Nat), SV.v (Value.slice none (0 : Nat) (0 : Nat)))] [HO.row (82 : Nat) (1 : Nat) N (mapv cs), HO.row (4 : Nat) (1 : Nat) N (List.take (Int.toNat x * (1 : Nat)) (mapv bs) ++ [SV.v (Value.bool true)] ++ List.drop (Int.toNat x * (1 : Nat) + (1 : Nat)) (mapv bs)), HO.gone, HO.row (3 : Nat) (1 : Nat) (1 : Nat) [SV.v (Value.int IntKind.i64 (↑i : Int))], HO.row (3 : Nat) (1 : Nat) (m + (1 : Nat)) (mapv ds ++ [SV.v (Value.int IntKind.i64 (↑i : Int))]), HO.row (3 : Nat) (1 : Nat) (1 : Nat) [SV.v (Value.int IntKind.i64 x)]])]
  := by kernel_rfl

theorem cn0s (N M i : Nat) (cs bs : List Value) (x z0 z1 z2 z3 : Int) (kt : List It) : ((xgo Try.prog X (bodyOf Try.f21) 74 K10 [([0,1,0,1,1,1,1,0,0,1,0,0,1,0,1,1,1,1,1,1],3)] 80 [.t, .lo 1 (.v (.bool true)), .f, .lo 0 (.v (.iface 134 (.agg #[.int .i64 x, .int .u64 z0, .int .u64 z1, .int .u64 z2, .int .u64 z3]))), .t, .t, .f] ((.nil)) (.at [0,0,1,0,1,1,1,1,1,1] :: .rnd [0,0,1,0,1,1,1,1,1,1] (M + 1) :: kt) ⟨[(9, .v (.int .i64 (i : Int))), (8, .v (.slice none 0 0)), (7, .o 1), (5, .o 0), (4, .v (.slice none 0 0))], [.row 82 1 N (mapv cs), .row 4 1 N (mapv bs)]⟩ [] []).map (trims [9, 8, 7, 5, 4])) =
  some [Leaf2.mk [] [fun _ => decide ((0 : Int) ≤ (↑i : Int)) = true,
    fun _ => (0 : Int) ≤ (↑i : Int) ∧ (↑i : Int) < (↑N : Int),
    fun _ => (0 : Nat) < List.length (mapv bs),
    fun _ => (mapv bs)[Int.toNat (↑i : Int) * (1 : Nat)]? = some (SV.v (Value.bool true)),
    fun _ => false = false,
    fun _ => (8 : Nat) ≤ (140737488355328 : Nat) ∧ (1 : Nat) ≤ (140737488355328 : Nat),
    fun _ => (0 : Int) ≤ (↑i : Int) ∧ (↑i : Int) < (↑N : Int),
    fun _ => (0 : Nat) < List.length (mapv cs),
    fun _ => (mapv cs)[Int.toNat (↑i : Int) * (1 : Nat)]? = some (SV.v (Value.iface (134 : Nat) (Value.agg (Array.mk [Value.int IntKind.i64 x, Value.int IntKind.u64 z0, Value.int IntKind.u64 z1, Value.int IntKind.u64 z2, Value.int IntKind.u64 z3])))),
    fun _ => true = true,
    fun _ => True,
    fun _ => true = true,
    fun _ => (0 : Int) ≤ (0 : Int) ∧ (0 : Int) < (1 : Int),
    fun _ => (0 : Nat) < (1 : Nat),
    fun _ => (0 : Int) ≤ x ∧ x < (↑N : Int),
    fun _ => (0 : Nat) < List.length (mapv bs) ∧ Int.toNat x * (1 : Nat) + (1 : Nat) ≤ List.length (mapv bs),
    fun _ => false = false] (It.rnd [(0 : Nat), (0 : Nat), (1 : Nat), (0 : Nat), (1 : Nat), (1 : Nat), (1 : Nat), (1 : Nat), (1 : Nat), (1 : Nat)] (M + (1 : Nat)) :: kt) (St.mk [((9 : Nat), SV.v (Value.int IntKind.i64 (IntKind.wrap IntKind.i64 ((↑i : Int) - (1 : Int))))), ((8 : Nat), SV.o (3 : Nat)), ((7 : Nat), SV.o (1 : Nat)), ((5 : Nat), SV.o (0 : Nat)), ((4 : Nat), SV.v (Value.slice none (0 : Nat) (0 : Nat)))] [HO.row (82 : Nat) (1 : Nat) N (mapv cs), HO.row (4 : Nat) (1 : Nat) N (List.take (Int.toNat x * (1 : Nat)) (mapv bs) ++ [SV.v (Value.bool true)] ++ List.drop (Int.toNat x * (1 : Nat) + (1 : Nat)) (mapv bs)), HO.row (3 : Nat) (1 : Nat) (1 : Nat) [SV.v (Value.int IntKind.i64 (↑i : Int))], HO.row (3 : Nat) (1 : Nat) (1 : Nat) [SV.v (Value.int IntKind.i64 (↑i : Int))], HO.row (3 : Nat) (1 : Nat) (1 : Nat) [SV.v (Value.int IntKind.i64 x)]])]
  := by kernel_rfl

theorem cn1x (N m M i : Nat) (cs bs ds : List Value) (kt : List It) : ((xgo Try.prog X (bodyOf Try.f21) 74 K10 [] 60 [.t, .lo 1 (.v (.bool false)), .t] ((.nil)) (.at [0,0,1,0,1,1,1,1,1,1] :: .rnd [0,0,1,0,1,1,1,1,1,1] (M + 1) :: kt) ⟨[(9, .v (.int .i64 (i : Int))), (8, .o 2), (7, .o 1), (5, .o 0), (4, .v (.slice none 0 0))], [.row 82 1 N (mapv cs), .row 4 1 N (mapv bs), .row 3 1 m (mapv ds)]⟩ [] []).map (trims [9, 8, 7, 5, 4])) =
  some [Leaf2.mk [] [fun _ => decide ((0 : Int) ≤ (↑i : Int)) = true,
    fun _ => (0 : Int) ≤ (↑i : Int) ∧ (↑i : Int) < (↑N : Int),
    fun _ => (0 : Nat) < List.length (mapv bs),
    fun _ => (mapv bs)[Int.toNat (↑i : Int) * (1 : Nat)]? = some (SV.v (Value.bool false)),
    fun _ => true = true] (It.rnd [(0 : Nat), (0 : Nat), (1 : Nat), (0 : Nat), (1 : Nat), (1 : Nat), (1 : Nat), (1 : Nat), (1 : Nat), (1 : Nat)] (M + (1 : Nat)) :: kt) (St.mk [((9 : Nat), SV.v (Value.int IntKind.i64 (IntKind.wrap IntKind.i64 ((↑i : Int) - (1 : Int))))), ((8 : Nat), SV.o (2 : Nat)), ((7 : Nat), SV.o (1 : Nat)), ((5 : Nat), SV.o (0 : Nat)), ((4 : Nat), SV.v (Value.slice none (0 : Nat) (0 : Nat)))] [HO.row (82 : Nat) (1 : Nat) N (mapv cs), HO.row (4 : Nat) (1 : Nat) N (mapv bs), HO.row (3 : Nat) (1 : Nat) m (mapv ds)])]
  := by kernel_rfl

theorem cnE (N m M : Nat) (cs bs ds : List Value) : ((xgo Try.prog X (bodyOf Try.f21) 74 K10 [] 60 [.f] ((.nil)) [.at [0,0,1,0,1,1,1,1,1,1], .rnd [0,0,1,0,1,1,1,1,1,1] (M + 1), .blk 0, .at [1,1,1,1,1,1,1]] ⟨[(9, .v (.int .i64 (-1))), (8, .o 2), (7, .o 1), (5, .o 0), (4, .v (.slice none 0 0))], [.row 82 1 N (mapv cs), .row 4 1 N (mapv bs), .row 3 1 m (mapv ds)]⟩ [] []).map (trims [71, 8, 4])) =
  some [Leaf2.mk [] [fun _ => false = false] [It.ops [(0 : Nat), (1 : Nat), (1 : Nat), (1 : Nat), (1 : Nat), (1 : Nat), (1 : Nat), (1 : Nat)] (1 : Nat), It.at [(1 : Nat), (1 : Nat), (1 : Nat), (1 : Nat), (1 : Nat), (1 : Nat), (1 : Nat), (1 : Nat)]] (St.mk [((71 : Nat), SV.o (2 : Nat)), ((8 : Nat), SV.o (2 : Nat)), ((4 : Nat), SV.v (Value.slice none (0 : Nat) (0 : Nat)))] [HO.row (82 : Nat) (1 : Nat) N (mapv cs), HO.row (4 : Nat) (1 : Nat) N (mapv bs), HO.row (3 : Nat) (1 : Nat) m (mapv ds)])]
  := by kernel_rfl

theorem cnS (oa : Option Addr) (n cap : Nat) (r : Int) (l : List Nd) : ((xgo Try.prog X (bodyOf Try.f21) 74 K10 [] 60 [.lx (nodesC l), .f, .f, .f] ((.nil)) [.at []] ⟨argsTm 0 [.slice oa n cap, .int .i64 r], []⟩ [] []).map (trims [9, 8, 7, 5, 4])) =
  some [Leaf2.mk [] [fun M => nodesC l = [] ∨ MCells (fun a => M a) oa (nodesC l),
    fun _ => nodesC l = nodesC (unNds (nodesC l)) ∧ List.length (unNds (nodesC l)) = n ∧ n ≤ (4398046511104 : Nat),
    fun _ => (!stB (nodesC l)) = false,
    fun _ => decide (r < (0 : Int)) = false,
    fun _ => decide ((↑n : Int) ≤ r) = false,
    fun _ => (0 : Int) ≤ (↑n : Int) ∧ (↑n : Int) ≤ (↑n : Int) ∧ (1 : Int) * (↑n : Int) ≤ (281474976710656 : Int) ∧ (↑n : Int) ≤ (9223372036854775807 : Int),
    fun _ => true = true ∧ (0 : Nat) < (1 : Nat),
    fun _ => (0 : Int) ≤ r ∧ r < (↑(Int.toNat (↑n : Int)) : Int),
    fun _ => (0 : Nat) < List.length (List.map (fun j => SV.v (List.get!Internal [Value.bool false] (j % (1 : Nat)))) (List.range.loop (Int.toNat (↑n : Int) * (1 : Nat)) [])) ∧ Int.toNat r * (1 : Nat) + (1 : Nat) ≤ List.length (List.map (fun j => SV.v (List.get!Internal [Value.bool false] (j % (1 : Nat)))) (List.range.loop (Int.toNat (↑n : Int) * (1 : Nat)) []))] [It.at [(0 : Nat), (1 : Nat), (0 : Nat), (1 : Nat), (1 : Nat), (1 : Nat), (1 : Nat), (1 : Nat), (1 : Nat)], It.blk (0 : Nat), It.at [(1 : Nat), (1 : Nat), (1 : Nat), (1 : Nat), (1 : Nat), (1 : Nat), (1 : Nat)]] (St.mk [((9 : Nat), SV.v (Value.int IntKind.i64 r)), ((8 : Nat), SV.v (Value.slice none (0 : Nat) (0 : Nat))), ((7 : Nat), SV.o (1 : Nat)), ((5 : Nat), SV.o (0 : Nat)), ((4 : Nat), SV.v (Value.slice none (0 : Nat) (0 : Nat)))] [HO.row (82 : Nat) (1 : Nat) (stN (nodesC l)) (mapv (stC (nodesC l))), HO.row (4 : Nat) (1 : Nat) (Int.toNat (↑n : Int)) (List.take (Int.toNat r * (1 : Nat)) (List.map (fun j => SV.v (List.get!Internal [Value.bool false] (j % (1 : Nat)))) (List.range.loop (Int.toNat (↑n : Int) * (1 : Nat)) [])) ++ [SV.v (Value.bool true)] ++ List.drop (Int.toNat r * (1 : Nat) + (1 : Nat)) (List.map (fun j => SV.v (List.get!Internal [Value.bool false] (j % (1 : Nat)))) (List.range.loop (Int.toNat (↑n : Int) * (1 : Nat)) [])))])]
  := by kernel_rfl

theorem cnX (oa : Option Addr) (n cap : Nat) (r : Int) (l : List Nd) : (((xgo Try.prog X (bodyOf Try.f21) 74 K10 [] 60 [.lx (nodesC l), .t, .t, .t] ((.nil)) [.at []] ⟨argsTm 0 [.slice oa n cap, .int .i64 r], []⟩ [] []).bind (ends Try.prog Try.f21.results.toList)).bind plainE) =
  some [EndP.mk [] [fun M => nodesC l = [] ∨ MCells (fun a => M a) oa (nodesC l),
    fun _ => nodesC l = nodesC (unNds (nodesC l)) ∧ List.length (unNds (nodesC l)) = n ∧ n ≤ (4398046511104 : Nat),
    fun _ => (!stB (nodesC l)) = true,
    fun _ => true = true,
    fun _ => true = true] (Res.v (Value.slice none (0 : Nat) (0 : Nat)))]
  := by kernel_rfl

theorem cnY (oa : Option Addr) (n cap : Nat) (r : Int) (l : List Nd) : (((xgo Try.prog X (bodyOf Try.f21) 74 K10 [] 60 [.lx (nodesC l), .f, .t, .t] ((.nil)) [.at []] ⟨argsTm 0 [.slice oa n cap, .int .i64 r], []⟩ [] []).bind (ends Try.prog Try.f21.results.toList)).bind plainE) =
  some [EndP.mk [] [fun M => nodesC l = [] ∨ MCells (fun a => M a) oa (nodesC l),
    fun _ => nodesC l = nodesC (unNds (nodesC l)) ∧ List.length (unNds (nodesC l)) = n ∧ n ≤ (4398046511104 : Nat),
    fun _ => (!stB (nodesC l)) = false,
    fun _ => decide (r < (0 : Int)) = true,
    fun _ => true = true] (Res.v (Value.slice none (0 : Nat) (0 : Nat)))]
  := by kernel_rfl

theorem cnZ (oa : Option Addr) (n cap : Nat) (r : Int) (l : List Nd) : (((xgo Try.prog X (bodyOf Try.f21) 74 K10 [] 60 [.lx (nodesC l), .f, .f, .t] ((.nil)) [.at []] ⟨argsTm 0 [.slice oa n cap, .int .i64 r], []⟩ [] []).bind (ends Try.prog Try.f21.results.toList)).bind plainE) =
  some [EndP.mk [] [fun M => nodesC l = [] ∨ MCells (fun a => M a) oa (nodesC l),
    fun _ => nodesC l = nodesC (unNds (nodesC l)) ∧ List.length (unNds (nodesC l)) = n ∧ n ≤ (4398046511104 : Nat),
    fun _ => (!stB (nodesC l)) = false,
    fun _ => decide (r < (0 : Int)) = false,
    fun _ => decide ((↑n : Int) ≤ r) = true] (Res.v (Value.slice none (0 : Nat) (0 : Nat)))]
  := by kernel_rfl

theorem cnF (N m : Nat) (cs bs ds : List Value) : (((xgo Try.prog X (bodyOf Try.f21) 74 K10 [] 60 [] ((.nil)) [.ops [0,1,1,1,1,1,1,1] 2, .at [1,1,1,1,1,1,1,1]] ⟨[(72, .v (.tuple (Array.mk []))), (71, .o 2), (8, .o 2), (4, .v (.slice none 0 0))], [.row 82 1 N (mapv cs), .row 4 1 N (mapv bs), .row 3 1 m (mapv ds)]⟩ [] []).bind (ends Try.prog Try.f21.results.toList)).bind plainE) =
  some [EndP.mk [] [fun _ => mapv ds = mapv (unv (mapv ds))] (Res.r (3 : Nat) (1 : Nat) m (unv (mapv ds)))]
  := by kernel_rfl

noncomputable def stCn (cs : List Value) (N : Nat) (i : Int) (w : List Bool) (out : List Int) : St := ⟨[(9, .v (.int .i64 i)), (8, .o 2), (7, .o 1), (5, .o 0), (4, .v (.slice none 0 0))], [.row 82 1 N (mapv cs), .row 4 1 N (mapv (boolsC w)), .row 3 1 out.length (mapv (intsC out))]⟩
noncomputable def stCn0 (cs : List Value) (N : Nat) (i : Int) (w : List Bool) : St := ⟨[(9, .v (.int .i64 i)), (8, .v (.slice none 0 0)), (7, .o 1), (5, .o 0), (4, .v (.slice none 0 0))], [.row 82 1 N (mapv cs), .row 4 1 N (mapv (boolsC w))]⟩
theorem cn_weak {w : World} {fin : Exit → Act → World → Prop} (cs : List Value) (N j : Nat) (i : Int) (bw : List Bool) (out : List Int) (bs ds : List SV) (hb : bs = mapv (boolsC bw)) (hd : ds = mapv (intsC out)) (hj : nodupB [0, 1, j] = true) (kt : List It) (tm : List (Nat × SV)) (hp : List HO) (h1 : RenT [0, 1, j] tm (stCn cs N i bw out).tm) (h2 : hp[0]? = some (.row 82 1 N (mapv cs))) (h3 : hp[1]? = some (.row 4 1 N bs)) (h4 : hp[j]? = some (.row 3 1 out.length ds))
    (next : Ok Try.prog (bodyOf Try.f21) 74 (F0 w) w fin kt (stCn cs N i bw out)) : Ok Try.prog (bodyOf Try.f21) 74 (F0 w) w fin kt ⟨tm, hp⟩ :=
  Ok.weaken (st' := stCn cs N i bw out) (F0.mono w) [0, 1, j] h1 ⟨by rw [h2]; exact ren_row _ _ _ _ _, by rw [h3, hb]; exact ren_row _ _ _ _ _, by rw [h4, hd]; exact ren_row _ _ _ _ _, trivial⟩ hj ⟨by simp [stCn, wsAllT, ws], by simp only [stCn, wsAllH, HO.ws, and_true]; exact ⟨wsL_mapv _ _, wsL_mapv _ _, wsL_mapv _ _⟩⟩ next
theorem cn_loop {w : World} (all : List Nd) (hw : ∀ x ∈ all, x.v < top) (ho : ordN 0 all = true) (hb : all.length ≤ 4398046511104) (R : Res → Prop) :
    ∀ (k : Nat) (bw : List Bool) (out : List Int), k ≤ all.length → bw.length = all.length → out ≠ [] → out.length + k ≤ all.length + 1 → R (.r 3 1 (colN all k bw out).length (intsC (colN all k bw out).reverse)) →
    Ok Try.prog (bodyOf Try.f21) 74 (F0 w) w (bodyPost Try.prog Try.f21 fun E w' => ∃ v r, E = .returned v ∧ R r ∧ r.ok w w' v ∧ Below w.heap.size w w') (.rnd [0,0,1,0,1,1,1,1,1,1] (k + 2) :: [.blk 0, .at [1,1,1,1,1,1,1]]) (stCn (stC (nodesC all)) all.length ((k : Int) - 1) bw out)
  | 0, bw, out, hk, hbl, hne, hol, hR => by
    rw [colN] at hR
    refine Ok.rnd (xgo_trim hm (F0.mono w) finB 60 _ _ _ _ _ _ (cnE all.length out.length 0 (stC (nodesC all)) (boolsC bw) (intsC out)) (paidCons (fun _ => ⟨?_, ?_⟩) paidNil))
    · simp only [hold_cons, hold_nil, and_true]
      exact fun _ _ => trivial
    · refine Ok.callRev (l := out) (m := out.length) (i := 2) (D := []) (sd := []) (dst := some 72) (it' := .ops [0,1,1,1,1,1,1,1] 2) (st1 := ⟨[(71, .o 2), (8, .o 2), (4, .v (.slice none 0 0))], [.row 82 1 all.length (mapv (stC (nodesC all))), .row 4 1 all.length (mapv (boolsC bw)), .row 3 1 out.length (mapv (intsC out))]⟩) (st2 := ⟨[(72, .v (.tuple (Array.mk []))), (71, .o 2), (8, .o 2), (4, .v (.slice none 0 0))], [.row 82 1 all.length (mapv (stC (nodesC all))), .row 4 1 all.length (mapv (boolsC bw)), .row 3 1 out.length (mapv (intsC out.reverse))]⟩) (F0.mono w) (by kernel_rfl) (by simp only [hold_nil]) (by kernel_rfl) rfl hne (by omega) (by kernel_rfl) ?_
      refine ok_plain hm (F0.mono w) (fun _ h => h) 60 _ _ _ _ (cnF all.length out.length (stC (nodesC all)) (boolsC bw) (intsC out.reverse)) ⟨fun _ => ⟨?_, ?_⟩, trivial⟩
      · simp only [hold_cons, hold_nil, and_true, unv_mapv']
        exact fun _ _ => trivial
      · rw [unv_mapv']
        exact hR
  | k + 1, bw, out, hk, hbl, hne, hol, hR => by
    have hkl : k < all.length := hk
    obtain ⟨x, hx⟩ : ∃ x, all[k]? = some x := ⟨all[k], List.getElem?_eq_getElem hkl⟩
    have hget := stC_get hw ho k hkl
    have hus := okN_uses (ordN_get ho k x hx)
    have hop := ordN_op all 0 ho x (List.mem_of_getElem? hx)
    have hgx : all[k] = x := (List.getElem?_eq_some_iff.1 hx).2
    rw [hgx] at hget
    have s1 : decide ((0 : Int) ≤ (k : Int)) = true := decide_eq_true (by omega)
    have s2 : (0 : Int) ≤ (k : Int) ∧ (k : Int) < (all.length : Int) := ⟨by omega, by omega⟩
    have s3 : 0 < (mapv (boolsC bw)).length := by rw [mapv_length, boolsC_length]; omega
    have s5 : 0 < (mapv (stC (nodesC all))).length := by
      rw [stC, unNds_nodesC all hw, if_pos ho, mapv_length, List.length_map]; omega
    have hbg : (mapv (boolsC bw))[(k : Int).toNat * 1]? = some (SV.v (.bool (bw.getD k false))) := by
      rw [Int.toNat_natCast, Nat.mul_one, mapv_get _ _ (by rw [boolsC_length]; omega)]
      have hkb : k < bw.length := by omega
      simp [boolsC, List.getD_eq_getElem?_getD, hkb]
    rw [show (((k + 1 : Nat) : Int) - 1) = (k : Int) by omega]
    rw [colN] at hR
    cases hbv : bw.getD k false with
    | false =>
      rw [hbv, if_neg (by simp)] at hR
      rw [hbv] at hbg
      have next := cn_loop (w := w) all hw ho hb R k bw out (by omega) hbl hne (by omega) hR
      refine Ok.rnd (xgo_trim hm (F0.mono w) finB 60 _ _ _ _ _ _ (cn1x all.length out.length (k + 1) k (stC (nodesC all)) (boolsC bw) (intsC out) _) (paidCons (fun _ => ⟨?_, ?_⟩) paidNil))
      · simp only [hold_cons, hold_nil, and_true]
        exact ⟨fun _ _ => s1, fun _ _ => s2, fun _ _ => s3, fun _ _ => hbg, fun _ _ => trivial⟩
      · simp only [wrap_dec k (by omega)]
        exact next
    | true =>
      rw [hbv, if_pos rfl] at hR
      rw [hbv] at hbg
      have hmk := markN_def all k bw x hx hbv
      have next := cn_loop (w := w) all hw ho hb R k (markN all k bw) (out ++ [(k : Int)]) (by omega) (by rw [markN_len]; exact hbl) (by simp) (by rw [List.length_append]; simp; omega) hR
      by_cases hkc : x.op = 1
      · have hu : usesN x = [] := by unfold usesN; rw [if_neg (by omega), if_neg (by omega)]
        rw [hu] at hus hmk
        simp only [List.foldl_nil] at hmk
        rw [hmk] at next
        rw [stV_c hkc] at hget
        refine Ok.rnd (xgo_trim hm (F0.mono w) finB 80 _ _ _ _ _ _ (cn1c all.length out.length (k + 1) k (stC (nodesC all)) (boolsC bw) (intsC out) (limb x.v 0 : Nat) (limb x.v 1 : Nat) (limb x.v 2 : Nat) (limb x.v 3 : Nat) _) (paidCons (fun _ => ⟨?_, ?_⟩) paidNil))
        · simp only [hold_cons, hold_nil, and_true]
          exact ⟨fun _ _ => s1, fun _ _ => s2, fun _ _ => s3, fun _ _ => hbg, fun _ _ => trivial, fun _ _ => ⟨by omega, by omega⟩, fun _ _ => s2, fun _ _ => s5, fun _ _ => hget, fun _ _ => trivial⟩
        · simp only [wrap_dec k (by omega)]
          exact cn_weak _ _ 4 _ _ _ _ _ (rfl) (by rw [intsC_snoc, mapv_append]) rfl _ _ _ ⟨rfl, rfl, rfl, rfl, rfl, trivial⟩ rfl rfl (by rw [List.length_append]; rfl) next
      by_cases hkq : 2 ≤ x.op ∧ x.op ≤ 4
      · have hu : usesN x = [] := by unfold usesN; rw [if_neg (by omega), if_neg (by omega)]
        rw [hu] at hus hmk
        simp only [List.foldl_nil] at hmk
        rw [hmk] at next
        rw [stV_q hkq] at hget
        refine Ok.rnd (xgo_trim hm (F0.mono w) finB 80 _ _ _ _ _ _ (cn1q all.length out.length (k + 1) k (stC (nodesC all)) (boolsC bw) (intsC out) x.op x.a x.b _) (paidCons (fun _ => ⟨?_, ?_⟩) paidNil))
        · simp only [hold_cons, hold_nil, and_true]
          exact ⟨fun _ _ => s1, fun _ _ => s2, fun _ _ => s3, fun _ _ => hbg, fun _ _ => trivial, fun _ _ => ⟨by omega, by omega⟩, fun _ _ => s2, fun _ _ => s5, fun _ _ => hget, fun _ _ => trivial⟩
        · simp only [wrap_dec k (by omega)]
          exact cn_weak _ _ 4 _ _ _ _ _ (rfl) (by rw [intsC_snoc, mapv_append]) rfl _ _ _ ⟨rfl, rfl, rfl, rfl, rfl, trivial⟩ rfl rfl (by rw [List.length_append]; rfl) next
      by_cases hkn : x.op = 5
      · have hu : usesN x = [x.a] := by unfold usesN; rw [if_pos (by omega)]
        rw [hu] at hus hmk
        simp only [List.foldl_cons, List.foldl_nil] at hmk
        rw [hmk] at next
        have u1 := hus x.a (by simp)
        have v1 : (0 : Int) ≤ x.a ∧ x.a < (all.length : Int) := ⟨u1.1, by omega⟩
        rw [stV_n hkn] at hget
        refine Ok.rnd (xgo_trim hm (F0.mono w) finB 80 _ _ _ _ _ _ (cn1n all.length out.length (k + 1) k (stC (nodesC all)) (boolsC bw) (intsC out) x.a _) (paidCons (fun _ => ⟨?_, ?_⟩) paidNil))
        · simp only [hold_cons, hold_nil, and_true]
          exact ⟨fun _ _ => s1, fun _ _ => s2, fun _ _ => s3, fun _ _ => hbg, fun _ _ => trivial, fun _ _ => ⟨by omega, by omega⟩, fun _ _ => s2, fun _ _ => s5, fun _ _ => hget, fun _ _ => trivial, fun _ _ => trivial, fun _ _ => trivial, fun _ _ => ⟨by omega, by omega⟩, fun _ _ => by omega, fun _ _ => v1, fun _ _ => ⟨s3, by rw [mapv_length, boolsC_length]; omega⟩, fun _ _ => trivial⟩
        · simp only [wrap_dec k (by omega)]
          exact cn_weak _ _ 4 _ _ _ _ _ (by rw [set3 _ _ _ (by rw [boolsC_length]; omega), boolsC_set]) (by rw [intsC_snoc, mapv_append]) rfl _ _ _ ⟨rfl, rfl, rfl, rfl, rfl, trivial⟩ rfl rfl (by rw [List.length_append]; rfl) next
      by_cases hka : x.op = 6
      · have hu : usesN x = [x.a, x.b] := by unfold usesN; rw [if_neg (by omega), if_pos (by omega)]
        rw [hu] at hus hmk
        simp only [List.foldl_cons, List.foldl_nil] at hmk
        rw [hmk] at next
        have u1 := hus x.a (by simp)
        have v1 : (0 : Int) ≤ x.a ∧ x.a < (all.length : Int) := ⟨u1.1, by omega⟩
        have u2 := hus x.b (by simp)
        have v2 : (0 : Int) ≤ x.b ∧ x.b < (all.length : Int) := ⟨u2.1, by omega⟩
        rw [stV_a hka] at hget
        refine Ok.rnd (xgo_trim hm (F0.mono w) finB 80 _ _ _ _ _ _ (cn1a all.length out.length (k + 1) k (stC (nodesC all)) (boolsC bw) (intsC out) x.a x.b _) (paidCons (fun _ => ⟨?_, ?_⟩) paidNil))
        · simp only [hold_cons, hold_nil, and_true]
          exact ⟨fun _ _ => s1, fun _ _ => s2, fun _ _ => s3, fun _ _ => hbg, fun _ _ => trivial, fun _ _ => ⟨by omega, by omega⟩, fun _ _ => s2, fun _ _ => s5, fun _ _ => hget, fun _ _ => trivial, fun _ _ => trivial, fun _ _ => trivial, fun _ _ => ⟨by omega, by omega⟩, fun _ _ => by omega, fun _ _ => v1, fun _ _ => ⟨s3, by rw [mapv_length, boolsC_length]; omega⟩, fun _ _ => trivial, fun _ _ => ⟨by omega, by omega⟩, fun _ _ => by omega, fun _ _ => v2, fun _ _ => by rw [set3 _ _ _ (by rw [boolsC_length]; omega), mapv_length, List.length_set, boolsC_length]; exact ⟨by omega, by omega⟩, fun _ _ => trivial⟩
        · simp only [wrap_dec k (by omega)]
          exact cn_weak _ _ 4 _ _ _ _ _ (by rw [set3 _ _ x.a.toNat (by rw [boolsC_length]; omega), set3 _ _ x.b.toNat (by rw [List.length_set, boolsC_length]; omega), boolsC_set, boolsC_set]) (by rw [intsC_snoc, mapv_append]) rfl _ _ _ ⟨rfl, rfl, rfl, rfl, rfl, trivial⟩ rfl rfl (by rw [List.length_append]; rfl) next
      by_cases hkm : x.op = 7
      · have hu : usesN x = [x.a, x.b] := by unfold usesN; rw [if_neg (by omega), if_pos (by omega)]
        rw [hu] at hus hmk
        simp only [List.foldl_cons, List.foldl_nil] at hmk
        rw [hmk] at next
        have u1 := hus x.a (by simp)
        have v1 : (0 : Int) ≤ x.a ∧ x.a < (all.length : Int) := ⟨u1.1, by omega⟩
        have u2 := hus x.b (by simp)
        have v2 : (0 : Int) ≤ x.b ∧ x.b < (all.length : Int) := ⟨u2.1, by omega⟩
        rw [stV_m hkm] at hget
        refine Ok.rnd (xgo_trim hm (F0.mono w) finB 80 _ _ _ _ _ _ (cn1m all.length out.length (k + 1) k (stC (nodesC all)) (boolsC bw) (intsC out) x.a x.b _) (paidCons (fun _ => ⟨?_, ?_⟩) paidNil))
        · simp only [hold_cons, hold_nil, and_true]
          exact ⟨fun _ _ => s1, fun _ _ => s2, fun _ _ => s3, fun _ _ => hbg, fun _ _ => trivial, fun _ _ => ⟨by omega, by omega⟩, fun _ _ => s2, fun _ _ => s5, fun _ _ => hget, fun _ _ => trivial, fun _ _ => trivial, fun _ _ => trivial, fun _ _ => ⟨by omega, by omega⟩, fun _ _ => by omega, fun _ _ => v1, fun _ _ => ⟨s3, by rw [mapv_length, boolsC_length]; omega⟩, fun _ _ => trivial, fun _ _ => ⟨by omega, by omega⟩, fun _ _ => by omega, fun _ _ => v2, fun _ _ => by rw [set3 _ _ _ (by rw [boolsC_length]; omega), mapv_length, List.length_set, boolsC_length]; exact ⟨by omega, by omega⟩, fun _ _ => trivial⟩
        · simp only [wrap_dec k (by omega)]
          exact cn_weak _ _ 4 _ _ _ _ _ (by rw [set3 _ _ x.a.toNat (by rw [boolsC_length]; omega), set3 _ _ x.b.toNat (by rw [List.length_set, boolsC_length]; omega), boolsC_set, boolsC_set]) (by rw [intsC_snoc, mapv_append]) rfl _ _ _ ⟨rfl, rfl, rfl, rfl, rfl, trivial⟩ rfl rfl (by rw [List.length_append]; rfl) next
      by_cases hks : x.op = 8
      · have hu : usesN x = [x.a] := by unfold usesN; rw [if_pos (by omega)]
        rw [hu] at hus hmk
        simp only [List.foldl_cons, List.foldl_nil] at hmk
        rw [hmk] at next
        have u1 := hus x.a (by simp)
        have v1 : (0 : Int) ≤ x.a ∧ x.a < (all.length : Int) := ⟨u1.1, by omega⟩
        rw [stV_s hks] at hget
        refine Ok.rnd (xgo_trim hm (F0.mono w) finB 80 _ _ _ _ _ _ (cn1s all.length out.length (k + 1) k (stC (nodesC all)) (boolsC bw) (intsC out) x.a (limb x.v 0 : Nat) (limb x.v 1 : Nat) (limb x.v 2 : Nat) (limb x.v 3 : Nat) _) (paidCons (fun _ => ⟨?_, ?_⟩) paidNil))
        · simp only [hold_cons, hold_nil, and_true]
          exact ⟨fun _ _ => s1, fun _ _ => s2, fun _ _ => s3, fun _ _ => hbg, fun _ _ => trivial, fun _ _ => ⟨by omega, by omega⟩, fun _ _ => s2, fun _ _ => s5, fun _ _ => hget, fun _ _ => trivial, fun _ _ => trivial, fun _ _ => trivial, fun _ _ => ⟨by omega, by omega⟩, fun _ _ => by omega, fun _ _ => v1, fun _ _ => ⟨s3, by rw [mapv_length, boolsC_length]; omega⟩, fun _ _ => trivial⟩
        · simp only [wrap_dec k (by omega)]
          exact cn_weak _ _ 4 _ _ _ _ _ (by rw [set3 _ _ _ (by rw [boolsC_length]; omega), boolsC_set]) (by rw [intsC_snoc, mapv_append]) rfl _ _ _ ⟨rfl, rfl, rfl, rfl, rfl, trivial⟩ rfl rfl (by rw [List.length_append]; rfl) next
      exfalso; omega
theorem cn_first {w : World} (all : List Nd) (hw : ∀ x ∈ all, x.v < top) (ho : ordN 0 all = true) (hb : all.length ≤ 4398046511104) (R : Res → Prop) (k : Nat) (bw : List Bool) (hkl : k < all.length) (hbl : bw.length = all.length) (hbv : bw.getD k false = true)
    (hR : R (.r 3 1 (colN all (k + 1) bw []).length (intsC (colN all (k + 1) bw []).reverse))) :
    Ok Try.prog (bodyOf Try.f21) 74 (F0 w) w (bodyPost Try.prog Try.f21 fun E w' => ∃ v r, E = .returned v ∧ R r ∧ r.ok w w' v ∧ Below w.heap.size w w') (.rnd [0,0,1,0,1,1,1,1,1,1] (k + 3) :: [.blk 0, .at [1,1,1,1,1,1,1]]) (stCn0 (stC (nodesC all)) all.length (k : Int) bw) := by
    obtain ⟨x, hx⟩ : ∃ x, all[k]? = some x := ⟨all[k], List.getElem?_eq_getElem hkl⟩
    have hget := stC_get hw ho k hkl
    have hus := okN_uses (ordN_get ho k x hx)
    have hop := ordN_op all 0 ho x (List.mem_of_getElem? hx)
    have hgx : all[k] = x := (List.getElem?_eq_some_iff.1 hx).2
    rw [hgx] at hget
    have s1 : decide ((0 : Int) ≤ (k : Int)) = true := decide_eq_true (by omega)
    have s2 : (0 : Int) ≤ (k : Int) ∧ (k : Int) < (all.length : Int) := ⟨by omega, by omega⟩
    have s3 : 0 < (mapv (boolsC bw)).length := by rw [mapv_length, boolsC_length]; omega
    have s5 : 0 < (mapv (stC (nodesC all))).length := by
      rw [stC, unNds_nodesC all hw, if_pos ho, mapv_length, List.length_map]; omega
    have hbg : (mapv (boolsC bw))[(k : Int).toNat * 1]? = some (SV.v (.bool (bw.getD k false))) := by
      rw [Int.toNat_natCast, Nat.mul_one, mapv_get _ _ (by rw [boolsC_length]; omega)]
      have hkb : k < bw.length := by omega
      simp [boolsC, List.getD_eq_getElem?_getD, hkb]
    rw [colN, if_pos hbv] at hR
    rw [hbv] at hbg
    have hmk := markN_def all k bw x hx hbv
    have next := cn_loop (w := w) all hw ho hb R k (markN all k bw) [(k : Int)] (by omega) (by rw [markN_len]; exact hbl) (by simp) (by simp; omega) hR
    by_cases hkc : x.op = 1
    · have hu : usesN x = [] := by unfold usesN; rw [if_neg (by omega), if_neg (by omega)]
      rw [hu] at hus hmk
      simp only [List.foldl_nil] at hmk
      rw [hmk] at next
      rw [stV_c hkc] at hget
      refine Ok.rnd (xgo_trim hm (F0.mono w) finB 80 _ _ _ _ _ _ (cn0c all.length (k + 1) k (stC (nodesC all)) (boolsC bw) (limb x.v 0 : Nat) (limb x.v 1 : Nat) (limb x.v 2 : Nat) (limb x.v 3 : Nat) _) (paidCons (fun _ => ⟨?_, ?_⟩) paidNil))
      · simp only [hold_cons, hold_nil, and_true]
        exact ⟨fun _ _ => s1, fun _ _ => s2, fun _ _ => s3, fun _ _ => hbg, fun _ _ => trivial, fun _ _ => ⟨by omega, by omega⟩, fun _ _ => s2, fun _ _ => s5, fun _ _ => hget, fun _ _ => trivial⟩
      · simp only [wrap_dec k (by omega)]
        exact cn_weak _ _ 3 _ _ _ _ _ (rfl) (rfl) rfl _ _ _ ⟨rfl, rfl, rfl, rfl, rfl, trivial⟩ rfl rfl (rfl) next
    by_cases hkq : 2 ≤ x.op ∧ x.op ≤ 4
    · have hu : usesN x = [] := by unfold usesN; rw [if_neg (by omega), if_neg (by omega)]
      rw [hu] at hus hmk
      simp only [List.foldl_nil] at hmk
      rw [hmk] at next
      rw [stV_q hkq] at hget
      refine Ok.rnd (xgo_trim hm (F0.mono w) finB 80 _ _ _ _ _ _ (cn0q all.length (k + 1) k (stC (nodesC all)) (boolsC bw) x.op x.a x.b _) (paidCons (fun _ => ⟨?_, ?_⟩) paidNil))
      · simp only [hold_cons, hold_nil, and_true]
        exact ⟨fun _ _ => s1, fun _ _ => s2, fun _ _ => s3, fun _ _ => hbg, fun _ _ => trivial, fun _ _ => ⟨by omega, by omega⟩, fun _ _ => s2, fun _ _ => s5, fun _ _ => hget, fun _ _ => trivial⟩
      · simp only [wrap_dec k (by omega)]
        exact cn_weak _ _ 3 _ _ _ _ _ (rfl) (rfl) rfl _ _ _ ⟨rfl, rfl, rfl, rfl, rfl, trivial⟩ rfl rfl (rfl) next
    by_cases hkn : x.op = 5
    · have hu : usesN x = [x.a] := by unfold usesN; rw [if_pos (by omega)]
      rw [hu] at hus hmk
      simp only [List.foldl_cons, List.foldl_nil] at hmk
      rw [hmk] at next
      have u1 := hus x.a (by simp)
      have v1 : (0 : Int) ≤ x.a ∧ x.a < (all.length : Int) := ⟨u1.1, by omega⟩
      rw [stV_n hkn] at hget
      refine Ok.rnd (xgo_trim hm (F0.mono w) finB 80 _ _ _ _ _ _ (cn0n all.length (k + 1) k (stC (nodesC all)) (boolsC bw) x.a _) (paidCons (fun _ => ⟨?_, ?_⟩) paidNil))
      · simp only [hold_cons, hold_nil, and_true]
        exact ⟨fun _ _ => s1, fun _ _ => s2, fun _ _ => s3, fun _ _ => hbg, fun _ _ => trivial, fun _ _ => ⟨by omega, by omega⟩, fun _ _ => s2, fun _ _ => s5, fun _ _ => hget, fun _ _ => trivial, fun _ _ => trivial, fun _ _ => trivial, fun _ _ => ⟨by omega, by omega⟩, fun _ _ => by omega, fun _ _ => v1, fun _ _ => ⟨s3, by rw [mapv_length, boolsC_length]; omega⟩, fun _ _ => trivial⟩
      · simp only [wrap_dec k (by omega)]
        exact cn_weak _ _ 3 _ _ _ _ _ (by rw [set3 _ _ _ (by rw [boolsC_length]; omega), boolsC_set]) (rfl) rfl _ _ _ ⟨rfl, rfl, rfl, rfl, rfl, trivial⟩ rfl rfl (rfl) next
    by_cases hka : x.op = 6
    · have hu : usesN x = [x.a, x.b] := by unfold usesN; rw [if_neg (by omega), if_pos (by omega)]
      rw [hu] at hus hmk
      simp only [List.foldl_cons, List.foldl_nil] at hmk
      rw [hmk] at next
      have u1 := hus x.a (by simp)
      have v1 : (0 : Int) ≤ x.a ∧ x.a < (all.length : Int) := ⟨u1.1, by omega⟩
      have u2 := hus x.b (by simp)
      have v2 : (0 : Int) ≤ x.b ∧ x.b < (all.length : Int) := ⟨u2.1, by omega⟩
      rw [stV_a hka] at hget
      refine Ok.rnd (xgo_trim hm (F0.mono w) finB 80 _ _ _ _ _ _ (cn0a all.length (k + 1) k (stC (nodesC all)) (boolsC bw) x.a x.b _) (paidCons (fun _ => ⟨?_, ?_⟩) paidNil))
      · simp only [hold_cons, hold_nil, and_true]
        exact ⟨fun _ _ => s1, fun _ _ => s2, fun _ _ => s3, fun _ _ => hbg, fun _ _ => trivial, fun _ _ => ⟨by omega, by omega⟩, fun _ _ => s2, fun _ _ => s5, fun _ _ => hget, fun _ _ => trivial, fun _ _ => trivial, fun _ _ => trivial, fun _ _ => ⟨by omega, by omega⟩, fun _ _ => by omega, fun _ _ => v1, fun _ _ => ⟨s3, by rw [mapv_length, boolsC_length]; omega⟩, fun _ _ => trivial, fun _ _ => ⟨by omega, by omega⟩, fun _ _ => by omega, fun _ _ => v2, fun _ _ => by rw [set3 _ _ _ (by rw [boolsC_length]; omega), mapv_length, List.length_set, boolsC_length]; exact ⟨by omega, by omega⟩, fun _ _ => trivial⟩
      · simp only [wrap_dec k (by omega)]
        exact cn_weak _ _ 3 _ _ _ _ _ (by rw [set3 _ _ x.a.toNat (by rw [boolsC_length]; omega), set3 _ _ x.b.toNat (by rw [List.length_set, boolsC_length]; omega), boolsC_set, boolsC_set]) (rfl) rfl _ _ _ ⟨rfl, rfl, rfl, rfl, rfl, trivial⟩ rfl rfl (rfl) next
    by_cases hkm : x.op = 7
    · have hu : usesN x = [x.a, x.b] := by unfold usesN; rw [if_neg (by omega), if_pos (by omega)]
      rw [hu] at hus hmk
      simp only [List.foldl_cons, List.foldl_nil] at hmk
      rw [hmk] at next
      have u1 := hus x.a (by simp)
      have v1 : (0 : Int) ≤ x.a ∧ x.a < (all.length : Int) := ⟨u1.1, by omega⟩
      have u2 := hus x.b (by simp)
      have v2 : (0 : Int) ≤ x.b ∧ x.b < (all.length : Int) := ⟨u2.1, by omega⟩
      rw [stV_m hkm] at hget
      refine Ok.rnd (xgo_trim hm (F0.mono w) finB 80 _ _ _ _ _ _ (cn0m all.length (k + 1) k (stC (nodesC all)) (boolsC bw) x.a x.b _) (paidCons (fun _ => ⟨?_, ?_⟩) paidNil))
      · simp only [hold_cons, hold_nil, and_true]
        exact ⟨fun _ _ => s1, fun _ _ => s2, fun _ _ => s3, fun _ _ => hbg, fun _ _ => trivial, fun _ _ => ⟨by omega, by omega⟩, fun _ _ => s2, fun _ _ => s5, fun _ _ => hget, fun _ _ => trivial, fun _ _ => trivial, fun _ _ => trivial, fun _ _ => ⟨by omega, by omega⟩, fun _ _ => by omega, fun _ _ => v1, fun _ _ => ⟨s3, by rw [mapv_length, boolsC_length]; omega⟩, fun _ _ => trivial, fun _ _ => ⟨by omega, by omega⟩, fun _ _ => by omega, fun _ _ => v2, fun _ _ => by rw [set3 _ _ _ (by rw [boolsC_length]; omega), mapv_length, List.length_set, boolsC_length]; exact ⟨by omega, by omega⟩, fun _ _ => trivial⟩
      · simp only [wrap_dec k (by omega)]
        exact cn_weak _ _ 3 _ _ _ _ _ (by rw [set3 _ _ x.a.toNat (by rw [boolsC_length]; omega), set3 _ _ x.b.toNat (by rw [List.length_set, boolsC_length]; omega), boolsC_set, boolsC_set]) (rfl) rfl _ _ _ ⟨rfl, rfl, rfl, rfl, rfl, trivial⟩ rfl rfl (rfl) next
    by_cases hks : x.op = 8
    · have hu : usesN x = [x.a] := by unfold usesN; rw [if_pos (by omega)]
      rw [hu] at hus hmk
      simp only [List.foldl_cons, List.foldl_nil] at hmk
      rw [hmk] at next
      have u1 := hus x.a (by simp)
      have v1 : (0 : Int) ≤ x.a ∧ x.a < (all.length : Int) := ⟨u1.1, by omega⟩
      rw [stV_s hks] at hget
      refine Ok.rnd (xgo_trim hm (F0.mono w) finB 80 _ _ _ _ _ _ (cn0s all.length (k + 1) k (stC (nodesC all)) (boolsC bw) x.a (limb x.v 0 : Nat) (limb x.v 1 : Nat) (limb x.v 2 : Nat) (limb x.v 3 : Nat) _) (paidCons (fun _ => ⟨?_, ?_⟩) paidNil))
      · simp only [hold_cons, hold_nil, and_true]
        exact ⟨fun _ _ => s1, fun _ _ => s2, fun _ _ => s3, fun _ _ => hbg, fun _ _ => trivial, fun _ _ => ⟨by omega, by omega⟩, fun _ _ => s2, fun _ _ => s5, fun _ _ => hget, fun _ _ => trivial, fun _ _ => trivial, fun _ _ => trivial, fun _ _ => ⟨by omega, by omega⟩, fun _ _ => by omega, fun _ _ => v1, fun _ _ => ⟨s3, by rw [mapv_length, boolsC_length]; omega⟩, fun _ _ => trivial⟩
      · simp only [wrap_dec k (by omega)]
        exact cn_weak _ _ 3 _ _ _ _ _ (by rw [set3 _ _ _ (by rw [boolsC_length]; omega), boolsC_set]) (rfl) rfl _ _ _ ⟨rfl, rfl, rfl, rfl, rfl, trivial⟩ rfl rfl (rfl) next
    exfalso; omega
theorem cone_ok (oa : Option Addr) (n cap : Nat) (r : Int) (all : List Nd) (hw : ∀ x ∈ all, x.v < top) (hn : all.length = n) (hb : n ≤ 4398046511104) (w : World) (ha : nodesC all = [] ∨ MCells (wmem w) oa (nodesC all)) :
    Calls Try.prog 21 [.slice oa n cap, .int .i64 r].toArray w (fun E w' => ∃ v, E = .returned v ∧ Res.ok w w' (.r 3 1 (coneN all r).length (intsC (coneN all r))) v ∧ Below w.heap.size w w') := by
  have hun := unNds_nodesC all hw
  have hmem : ∀ M, F0 w M → nodesC all = [] ∨ MCells (fun a => M a) oa (nodesC all) := fun _ hM => ha.imp id fun h => h.mono hM
  have hst : stB (nodesC all) = ordN 0 all := by rw [stB, hidQ_eq, hun]
  have hside : nodesC all = nodesC (unNds (nodesC all)) ∧ (unNds (nodesC all)).length = n ∧ n ≤ 4398046511104 := by rw [hun]; exact ⟨rfl, hn, hb⟩
  have none : (coneN all r = []) → ∀ w w' v, (Res.v (.slice none 0 0)).ok w w' v → (Res.r 3 1 (coneN all r).length (intsC (coneN all r))).ok w w' v := by
    intro h w1 w2 v hv
    rw [h]
    exact nilRow1 w1 w2 3 1 v hv
  cases ho : ordN 0 all with
  | false =>
    refine con_end2 (calls_plain (R := fun q => ∀ w w' v, q.ok w w' v → (Res.r 3 1 (coneN all r).length (intsC (coneN all r))).ok w w' v) hm Try.func21 (by kernel_rfl) rfl rfl 60 _ _ (cnX oa n cap r all) ⟨fun _ => ⟨?_, none (by rw [coneN, if_neg (by rw [ho]; simp)])⟩, trivial⟩)
    simp only [hold_cons, hold_nil, and_true, hst, ho]
    exact ⟨hmem, fun _ _ => hside, fun _ _ => rfl, fun _ _ => trivial, fun _ _ => trivial⟩
  | true =>
    by_cases h0 : r < 0
    · refine con_end2 (calls_plain (R := fun q => ∀ w w' v, q.ok w w' v → (Res.r 3 1 (coneN all r).length (intsC (coneN all r))).ok w w' v) hm Try.func21 (by kernel_rfl) rfl rfl 60 _ _ (cnY oa n cap r all) ⟨fun _ => ⟨?_, none (by rw [coneN, if_neg (by omega)])⟩, trivial⟩)
      simp only [hold_cons, hold_nil, and_true, hst, ho]
      exact ⟨hmem, fun _ _ => hside, fun _ _ => rfl, fun _ _ => decide_eq_true h0, fun _ _ => trivial⟩
    by_cases h1 : (n : Int) ≤ r
    · refine con_end2 (calls_plain (R := fun q => ∀ w w' v, q.ok w w' v → (Res.r 3 1 (coneN all r).length (intsC (coneN all r))).ok w w' v) hm Try.func21 (by kernel_rfl) rfl rfl 60 _ _ (cnZ oa n cap r all) ⟨fun _ => ⟨?_, none (by rw [coneN, if_neg (by omega)])⟩, trivial⟩)
      simp only [hold_cons, hold_nil, and_true, hst, ho]
      exact ⟨hmem, fun _ _ => hside, fun _ _ => rfl, fun _ _ => decide_eq_false h0, fun _ _ => decide_eq_true h1⟩
    obtain ⟨k, rfl⟩ := Int.eq_ofNat_of_zero_le (show 0 ≤ r by omega)
    have hkl : k < all.length := by omega
    have hN : stN (nodesC all) = all.length := by rw [stN, hide_eq, hun, if_pos ho]
    have hz : List.map (fun j => SV.v (List.get!Internal [Value.bool false] (j % (1 : Nat)))) (List.range.loop (n * (1 : Nat)) []) = mapv (boolsC (List.replicate n false)) := by
      rw [Nat.mul_one, show List.range.loop n [] = List.range n from rfl]
      apply List.ext_getElem
      · simp [mapv, boolsC]
      · intro i h1 h2
        simp [mapv, boolsC, Nat.mod_one]
    have hres : ∀ w w' v, (Res.r 3 1 (colN all (k + 1) ((List.replicate all.length false).set k true) []).length (intsC (colN all (k + 1) ((List.replicate all.length false).set k true) []).reverse)).ok w w' v → (Res.r 3 1 (coneN all (k : Int)).length (intsC (coneN all (k : Int)))).ok w w' v := by
      intro w1 w2 v hv
      rw [cone_col ho (k : Int) (by omega) (by omega), Int.toNat_natCast, List.length_reverse]
      exact hv
    refine con_end2 (calls_of_ok (B := bodyOf Try.f21) (n := 74) Try.func21 (by kernel_rfl) rfl rfl (F := F0 w) (fun _ _ h => h) ?_)
    refine xgo_trim hm (F0.mono w) finB 60 _ _ _ _ _ _ (cnS oa n cap (k : Int) all) (paidCons (fun _ => ⟨?_, ?_⟩) paidNil)
    · simp only [hold_cons, hold_nil, and_true, hst, ho, Int.toNat_natCast, hz]
      exact ⟨hmem, fun _ _ => hside, fun _ _ => rfl, fun _ _ => decide_eq_false h0, fun _ _ => decide_eq_false h1, fun _ _ => ⟨by omega, by omega, by omega, by omega⟩, fun _ _ => ⟨trivial, by omega⟩, fun _ _ => ⟨by omega, by omega⟩, fun _ _ => by rw [mapv_length, boolsC_length, List.length_replicate]; exact ⟨by omega, by omega⟩⟩
    · have first := cn_first (w := w) all hw ho (by omega) (fun q => ∀ w w' v, q.ok w w' v → (Res.r 3 1 (coneN all (k : Int)).length (intsC (coneN all (k : Int)))).ok w w' v) k ((List.replicate all.length false).set k true) hkl (by simp) (by simp [List.getD_eq_getElem?_getD, hkl]) hres
      simp only [Int.toNat_natCast]
      rw [hz, set3 _ _ _ (by rw [boolsC_length, List.length_replicate]; omega), ← boolsC_set]
      refine Ok.loop (k + 3) (by kernel_rfl) (ok_mono (st := stCn0 (stC (nodesC all)) all.length (k : Int) ((List.replicate all.length false).set k true)) ?_ first)
      rw [stCn0, hN, hn]
noncomputable def gCone : List RV → Option (Res × Prop)
  | [.r n cs, .v (.int .i64 r)] => some (.r 3 1 (cnN cs r) (cnL cs r), cs = nodesC (unNds cs) ∧ (unNds cs).length = n ∧ n ≤ 4398046511104 ∧ ∀ x ∈ unNds cs, x.v < top)
  | _ => none
theorem gCone_ok (rvs : List RV) (r : Res) (p : Prop) (vs : List Value) (w : World) (hg : gCone rvs = some (r, p)) (hp : p) (hv : RVs (wmem w) rvs vs) : Calls Try.prog 21 vs.toArray w (fun E w' => ∃ v, E = .returned v ∧ r.ok w w' v ∧ Below w.heap.size w w') := by
  unfold gCone at hg
  split at hg
  · simp only [Option.some.injEq, Prod.mk.injEq] at hg
    obtain ⟨rfl, rfl⟩ := hg
    obtain ⟨hc, hn, hb, hw⟩ := hp
    match vs, hv with
    | [x, y], ⟨⟨oa, cap, h1, h2⟩, h3, _⟩ =>
      rw [h1, h3, cnN, cnL, hide_eq]
      rw [hc] at h2
      exact cone_ok oa _ cap _ _ hw hn hb w h2
  · cases hg
noncomputable def K11 : Con Try.prog := K10.add 21 gCone gCone_ok
end Go.Proofs.Ytpghmnpbfaichaa
