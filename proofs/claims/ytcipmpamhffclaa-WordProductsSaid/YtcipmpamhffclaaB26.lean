/- Rows of digits: numbers, and one digit changed. -/
import Derived.Test.YtcipmpamhffclaaB22
namespace Go.Pl
open Go.Sx
theorem vb_set (l : List Nat) : ∀ (k v : Nat), k < l.length → vb (l.set k v) + 2 ^ k * l.getD k 0 = vb l + 2 ^ k * v := by
  induction l with
  | nil => intro k v h; cases h
  | cons x r ih =>
    intro k v h
    cases k with
    | zero => simp [vb]; omega
    | succ k =>
      have := ih k v (by simpa using h)
      simp only [List.set_cons_succ, vb, List.getD_cons_succ, Nat.pow_succ']
      rw [Nat.mul_assoc, Nat.mul_assoc]
      omega
theorem putv (l : List Nat) (k v : Nat) (h : k < l.length) : List.take k (mapv (bl l)) ++ [SV.v (.int .i64 (v : Int))] ++ List.drop (k + 1) (mapv (bl l)) = mapv (bl (l.set k v)) := by
  rw [List.set_eq_take_append_cons_drop, if_pos h]
  simp [mapv, bl]
theorem lset_same (l : List Nat) (k v : Nat) (h : k < l.length) : (l.set k v).getD k 0 = v := by
  simp [List.getD, h]
theorem lset_ne (l : List Nat) (k j v : Nat) (h : k ≠ j) : (l.set k v).getD j 0 = l.getD j 0 := by
  simp [List.getD, h]
theorem set_le (l : List Nat) (k v B : Nat) (hl : ∀ b ∈ l, b ≤ B) (hv : v ≤ B) : ∀ b ∈ l.set k v, b ≤ B := by
  intro b hb
  rcases List.mem_or_eq_of_mem_set hb with h | h
  · exact hl b h
  · omega
theorem getD_le (l : List Nat) (k B : Nat) (hl : ∀ b ∈ l, b ≤ B) : l.getD k 0 ≤ B := by
  rw [List.getD]
  cases h : l[k]? with
  | none => simp
  | some x =>
    obtain ⟨hk, rfl⟩ := List.getElem?_eq_some_iff.1 h
    exact hl _ (List.getElem_mem hk)
theorem vb_zeros (n : Nat) : vb (List.replicate n 0) = 0 := by
  induction n with
  | zero => rfl
  | succ n ih => simp [List.replicate_succ, vb, ih]
theorem vb_append (l r : List Nat) : vb (l ++ r) = vb l + 2 ^ l.length * vb r := by
  induction l with
  | nil => simp [vb]
  | cons x l ih =>
    simp only [List.cons_append, vb, ih, List.length_cons, Nat.pow_succ']
    rw [Nat.mul_add, Nat.mul_assoc]
    omega
end Go.Pl

namespace Go.Proofs.Ytcipmpamhffclaa
open Go.Sx Go.Pl Go.RowKit
def qP : List Nat := [0,0,1,0,1,1,1,1]
noncomputable def hpP (a b : Nat) (l : List Nat) : List HO := [.cells (ec a) 24, .cells (ec b) 24, .cells (ec 0) 24, .cells (ec 0) 24, .row 3 1 256 (mapv (hvs (bl (nb a 256)))), .row 3 1 256 (mapv (hvs (bl (nb b 256)))), .cells (mapv (bl l)) 3]
noncomputable def stP (a b : Nat) (i : Int) (l : List Nat) : St :=
  ⟨[(9, .v (.int .i64 i)), (8, .sl 6 0 520 520), (7, .o 5), (6, .o 4), (5, .p 3 0), (4, .p 2 0), (3, .p 1 0), (2, .p 0 0)], hpP a b l⟩
def qQ : List Nat := [0,0,1,1,0,0,1,0,0,1,0,1,1,1,1]
noncomputable def stQ (a b : Nat) (i j : Int) (l : List Nat) : St :=
  ⟨[(10, .v (.int .i64 j)), (9, .v (.int .i64 i)), (8, .sl 6 0 520 520), (7, .o 5), (6, .o 4), (5, .p 3 0), (4, .p 2 0), (3, .p 1 0), (2, .p 0 0)], hpP a b l⟩
def qR : List Nat := [0,0,1,0,1,1,1,1,1]
noncomputable def stR (a b : Nat) (i : Int) (l : List Nat) : St :=
  ⟨[(11, .v (.int .i64 i)), (8, .sl 6 0 520 520), (7, .o 5), (6, .o 4), (5, .p 3 0), (4, .p 2 0), (3, .p 1 0), (2, .p 0 0)], hpP a b l⟩
end Go.Proofs.Ytcipmpamhffclaa

namespace Go.Pl
open Go.Sx
theorem mapv_at (l : List Nat) (i : Nat) (h : i < l.length) : (mapv (bl l))[i]? = some (SV.v (.int .i64 ((l.getD i 0 : Nat) : Int))) := by
  rw [mapv_get l i h, hide_eq]
theorem mapv_take (l : List Nat) (k : Nat) : List.take k (mapv (bl l)) = mapv (bl (l.take k)) := by simp [mapv, bl]
theorem mapv_drop (l : List Nat) (k : Nat) : List.drop k (mapv (bl l)) = mapv (bl (l.drop k)) := by simp [mapv, bl]
theorem all_of_get (l : List Nat) (B : Nat) (h : ∀ q, q < l.length → l.getD q 0 ≤ B) : ∀ b ∈ l, b ≤ B := by
  intro b hb
  obtain ⟨q, hq, rfl⟩ := List.getElem_of_mem hb
  have := h q hq
  rw [List.getD_eq_getElem?_getD, List.getElem?_eq_getElem hq] at this
  exact this
theorem vb_get_le (l : List Nat) : ∀ q, 2 ^ q * l.getD q 0 ≤ vb l := by
  induction l with
  | nil => intro q; simp
  | cons x r ih =>
    intro q
    cases q with
    | zero => simp [vb]
    | succ q =>
      have := ih q
      simp only [List.getD_cons_succ, vb, Nat.pow_succ', Nat.mul_assoc]
      omega
theorem vb_halves (l : List Nat) (h : l.length = 520) (hb : ∀ b ∈ l, b ≤ 1) : vb (l.take 256) = vb l % 2 ^ 256 ∧ vb ((l.drop 256).take 256) = vb l / 2 ^ 256 % 2 ^ 256 := by
  have h1 := vb_take l hb 256
  have hbd : ∀ b ∈ l.drop 256, b ≤ 1 := fun b hb' => hb b (List.mem_of_mem_drop hb')
  have h2 := vb_take (l.drop 256) hbd 256
  have h3 := vb_append (l.take 256) (l.drop 256)
  rw [List.take_append_drop, List.length_take, h] at h3
  have h4 : vb (l.drop 256) = vb l / 2 ^ 256 := by
    have hm : min 256 520 = 256 := rfl
    rw [hm, h1] at h3
    have h5 := Nat.mod_add_div (vb l) (2 ^ 256)
    have h6 : 2 ^ 256 * vb (l.drop 256) = 2 ^ 256 * (vb l / 2 ^ 256) := by omega
    exact Nat.eq_of_mul_eq_mul_left (Nat.two_pow_pos 256) h6
  exact ⟨h1, by rw [h2, h4]⟩
theorem top_sq (k : Nat) (h : 512 ≤ k) : top * top ≤ 2 ^ k := by
  obtain ⟨j, rfl⟩ : ∃ j, k = 256 + (256 + j) := ⟨k - 512, by omega⟩
  rw [Nat.pow_add, Nat.pow_add, pow256]
  exact Nat.mul_le_mul_left _ (Nat.le_mul_of_pos_right _ (Nat.two_pow_pos j))
theorem mul_round (a b i : Nat) : a % 2 ^ (i + 1) * b = a % 2 ^ i * b + 2 ^ i * (a / 2 ^ i % 2 * b) := by
  rw [mod_succ, Nat.add_mul, Nat.mul_assoc]
end Go.Pl
namespace Go.Proofs.Ytcipmpamhffclaa
open Go.Sx Go.Pl Go.RowKit
theorem rmulStart (a b : Nat) : ((xgo Try.prog X (bodyOf Try.f19) 73 CI [] 50 [Dec.lx []] (Tree.nil) [.at []] ⟨argsTm 0 [el a, el b], []⟩ [] []).map (trims [9, 8, 7, 6, 5, 4, 3, 2])) =
  some [Leaf2.mk [] [fun _ => el a = el (elN a),
    fun _ => el b = el (elN b),
    fun _ => (0 : Int) ≤ (520 : Int) ∧ (520 : Int) ≤ (520 : Int) ∧ (4160 : Int) ≤ (281474976710656 : Int) ∧ (520 : Int) ≤ (9223372036854775807 : Int)] [It.at [(0 : Nat), (1 : Nat), (0 : Nat), (1 : Nat), (1 : Nat), (1 : Nat), (1 : Nat)], It.blk (0 : Nat), It.at [(1 : Nat), (1 : Nat), (1 : Nat), (1 : Nat), (1 : Nat)]] (St.mk [((9 : Nat), SV.v (Value.int IntKind.i64 (0 : Int))), ((8 : Nat), SV.sl (6 : Nat) (0 : Nat) (520 : Nat) (520 : Nat)), ((7 : Nat), SV.o (5 : Nat)), ((6 : Nat), SV.o (4 : Nat)), ((5 : Nat), SV.p (3 : Nat) (0 : Nat)), ((4 : Nat), SV.p (2 : Nat) (0 : Nat)), ((3 : Nat), SV.p (1 : Nat) (0 : Nat)), ((2 : Nat), SV.p (0 : Nat) (0 : Nat))] [HO.cells (ec a) (24 : Nat), HO.cells (ec b) (24 : Nat), HO.cells [SV.v (Value.int IntKind.u64 (0 : Int)), SV.v (Value.int IntKind.u64 (0 : Int)), SV.v (Value.int IntKind.u64 (0 : Int)), SV.v (Value.int IntKind.u64 (0 : Int))] (24 : Nat), HO.cells [SV.v (Value.int IntKind.u64 (0 : Int)), SV.v (Value.int IntKind.u64 (0 : Int)), SV.v (Value.int IntKind.u64 (0 : Int)), SV.v (Value.int IntKind.u64 (0 : Int))] (24 : Nat), HO.row (3 : Nat) (1 : Nat) (256 : Nat) (mapv (hvs (bl (nb (elN a) (256 : Nat))))), HO.row (3 : Nat) (1 : Nat) (256 : Nat) (mapv (hvs (bl (nb (elN b) (256 : Nat))))), HO.cells (mapv (bl (List.replicate 520 0))) (3 : Nat)])]
  := by kernel_rfl

theorem rmulRound (a b x M : Nat) (i : Int) (l : List Nat) (kt : List It) : (xgo Try.prog X (bodyOf Try.f19) 73 CI [] 30 [.t, .lo 4 (.v (.int .i64 (x : Int)))] ((.br [] .nil [] .nil)) (.at qP :: .rnd qP (M + 1) :: kt) (stP a b i l) [] []) =
  some [Leaf2.mk [((↑x : Int) == (0 : Int)) = true] [fun _ => decide (i < (256 : Int)) = true,
    fun _ => (0 : Int) ≤ i ∧ i < (256 : Int),
    fun _ => (0 : Nat) < List.length (mapv (hvs (bl (nb a (256 : Nat))))),
    fun _ => (mapv (hvs (bl (nb a (256 : Nat)))))[Int.toNat i * (1 : Nat)]? = some (SV.v (Value.int IntKind.i64 (↑x : Int))),
    fun _ => ((↑x : Int) == (0 : Int)) = true] (It.rnd [(0 : Nat), (0 : Nat), (1 : Nat), (0 : Nat), (1 : Nat), (1 : Nat), (1 : Nat), (1 : Nat)] (M + (1 : Nat)) :: kt) (St.mk [((9 : Nat), SV.v (Value.int IntKind.i64 (IntKind.wrap IntKind.i64 (i + (1 : Int))))), ((20 : Nat), SV.v (Value.int IntKind.i64 (IntKind.wrap IntKind.i64 (i + (1 : Int))))), ((19 : Nat), SV.v (Value.int IntKind.i64 i)), ((25 : Nat), SV.v (Value.bool ((↑x : Int) == (0 : Int)))), ((24 : Nat), SV.v (Value.int IntKind.i64 (↑x : Int))), ((23 : Nat), SV.q (4 : Nat) (Int.toNat i * (1 : Nat))), ((22 : Nat), SV.v (Value.int IntKind.i64 i)), ((21 : Nat), SV.o (4 : Nat)), ((18 : Nat), SV.v (Value.bool (decide (i < (256 : Int))))), ((17 : Nat), SV.v (Value.int IntKind.i64 i)), ((8 : Nat), SV.sl (6 : Nat) (0 : Nat) (520 : Nat) (520 : Nat)), ((7 : Nat), SV.o (5 : Nat)), ((6 : Nat), SV.o (4 : Nat)), ((5 : Nat), SV.p (3 : Nat) (0 : Nat)), ((4 : Nat), SV.p (2 : Nat) (0 : Nat)), ((3 : Nat), SV.p (1 : Nat) (0 : Nat)), ((2 : Nat), SV.p (0 : Nat) (0 : Nat))] [HO.cells (ec a) (24 : Nat), HO.cells (ec b) (24 : Nat), HO.cells (ec (0 : Nat)) (24 : Nat), HO.cells (ec (0 : Nat)) (24 : Nat), HO.row (3 : Nat) (1 : Nat) (256 : Nat) (mapv (hvs (bl (nb a (256 : Nat))))), HO.row (3 : Nat) (1 : Nat) (256 : Nat) (mapv (hvs (bl (nb b (256 : Nat))))), HO.cells (mapv (bl l)) (3 : Nat)]),
  Leaf2.mk [((↑x : Int) == (0 : Int)) = false] [fun _ => decide (i < (256 : Int)) = true,
    fun _ => (0 : Int) ≤ i ∧ i < (256 : Int),
    fun _ => (0 : Nat) < List.length (mapv (hvs (bl (nb a (256 : Nat))))),
    fun _ => (mapv (hvs (bl (nb a (256 : Nat)))))[Int.toNat i * (1 : Nat)]? = some (SV.v (Value.int IntKind.i64 (↑x : Int))),
    fun _ => ((↑x : Int) == (0 : Int)) = false] (It.at [(0 : Nat), (1 : Nat), (1 : Nat), (0 : Nat), (0 : Nat), (1 : Nat), (0 : Nat), (0 : Nat), (1 : Nat), (0 : Nat), (1 : Nat), (1 : Nat), (1 : Nat), (1 : Nat)] :: It.blk (2 : Nat) :: It.blk (1 : Nat) :: It.at [(1 : Nat), (1 : Nat), (0 : Nat), (0 : Nat), (1 : Nat), (0 : Nat), (1 : Nat), (1 : Nat), (1 : Nat), (1 : Nat)] :: It.rnd [(0 : Nat), (0 : Nat), (1 : Nat), (0 : Nat), (1 : Nat), (1 : Nat), (1 : Nat), (1 : Nat)] (M + (1 : Nat)) :: kt) (St.mk [((10 : Nat), SV.v (Value.int IntKind.i64 (0 : Int))), ((25 : Nat), SV.v (Value.bool ((↑x : Int) == (0 : Int)))), ((24 : Nat), SV.v (Value.int IntKind.i64 (↑x : Int))), ((23 : Nat), SV.q (4 : Nat) (Int.toNat i * (1 : Nat))), ((22 : Nat), SV.v (Value.int IntKind.i64 i)), ((21 : Nat), SV.o (4 : Nat)), ((18 : Nat), SV.v (Value.bool (decide (i < (256 : Int))))), ((17 : Nat), SV.v (Value.int IntKind.i64 i)), ((9 : Nat), SV.v (Value.int IntKind.i64 i)), ((8 : Nat), SV.sl (6 : Nat) (0 : Nat) (520 : Nat) (520 : Nat)), ((7 : Nat), SV.o (5 : Nat)), ((6 : Nat), SV.o (4 : Nat)), ((5 : Nat), SV.p (3 : Nat) (0 : Nat)), ((4 : Nat), SV.p (2 : Nat) (0 : Nat)), ((3 : Nat), SV.p (1 : Nat) (0 : Nat)), ((2 : Nat), SV.p (0 : Nat) (0 : Nat))] [HO.cells (ec a) (24 : Nat), HO.cells (ec b) (24 : Nat), HO.cells (ec (0 : Nat)) (24 : Nat), HO.cells (ec (0 : Nat)) (24 : Nat), HO.row (3 : Nat) (1 : Nat) (256 : Nat) (mapv (hvs (bl (nb a (256 : Nat))))), HO.row (3 : Nat) (1 : Nat) (256 : Nat) (mapv (hvs (bl (nb b (256 : Nat))))), HO.cells (mapv (bl l)) (3 : Nat)])]
  := by kernel_rfl

theorem rmulMid (a b : Nat) (i : Int) (l : List Nat) : (xgo Try.prog X (bodyOf Try.f19) 73 CI [] 30 [.f] (.nil) [.at qP, .rnd qP 1, .blk 0, .at [1,1,1,1,1]] (stP a b i l) [] []) =
  some [Leaf2.mk [] [fun _ => decide (i < (256 : Int)) = false] [It.at [(0 : Nat), (1 : Nat), (0 : Nat), (1 : Nat), (1 : Nat), (1 : Nat), (1 : Nat), (1 : Nat)], It.blk (4 : Nat), It.at [(1 : Nat), (1 : Nat), (1 : Nat), (1 : Nat), (1 : Nat), (1 : Nat)]] (St.mk [((11 : Nat), SV.v (Value.int IntKind.i64 (0 : Int))), ((18 : Nat), SV.v (Value.bool (decide (i < (256 : Int))))), ((17 : Nat), SV.v (Value.int IntKind.i64 i)), ((9 : Nat), SV.v (Value.int IntKind.i64 i)), ((8 : Nat), SV.sl (6 : Nat) (0 : Nat) (520 : Nat) (520 : Nat)), ((7 : Nat), SV.o (5 : Nat)), ((6 : Nat), SV.o (4 : Nat)), ((5 : Nat), SV.p (3 : Nat) (0 : Nat)), ((4 : Nat), SV.p (2 : Nat) (0 : Nat)), ((3 : Nat), SV.p (1 : Nat) (0 : Nat)), ((2 : Nat), SV.p (0 : Nat) (0 : Nat))] [HO.cells (ec a) (24 : Nat), HO.cells (ec b) (24 : Nat), HO.cells (ec (0 : Nat)) (24 : Nat), HO.cells (ec (0 : Nat)) (24 : Nat), HO.row (3 : Nat) (1 : Nat) (256 : Nat) (mapv (hvs (bl (nb a (256 : Nat))))), HO.row (3 : Nat) (1 : Nat) (256 : Nat) (mapv (hvs (bl (nb b (256 : Nat))))), HO.cells (mapv (bl l)) (3 : Nat)])]
  := by kernel_rfl

theorem rmulIn (a b s y M : Nat) (i j : Int) (l : List Nat) (kt : List It) : ((xgo Try.prog X (bodyOf Try.f19) 73 CI [] 30 [.t, .lo 6 (.v (.int .i64 (s : Int))), .lo 5 (.v (.int .i64 (y : Int)))] (.nil) (.at qQ :: .rnd qQ (M + 1) :: kt) (stQ a b i j l) [] []).map (trims [10, 9, 8, 7, 6, 5, 4, 3, 2])) =
  some [Leaf2.mk [] [fun _ => decide (j < (256 : Int)) = true,
    fun _ => (0 : Int) ≤ IntKind.wrap IntKind.i64 (i + j) ∧ IntKind.wrap IntKind.i64 (i + j) < (520 : Int),
    fun _ => (mapv (bl l))[(0 : Nat) + Int.toNat (IntKind.wrap IntKind.i64 (i + j)) * (1 : Nat)]? = some (SV.v (Value.int IntKind.i64 (↑s : Int))),
    fun _ => (0 : Int) ≤ j ∧ j < (256 : Int),
    fun _ => (0 : Nat) < List.length (mapv (hvs (bl (nb b (256 : Nat))))),
    fun _ => (mapv (hvs (bl (nb b (256 : Nat)))))[Int.toNat j * (1 : Nat)]? = some (SV.v (Value.int IntKind.i64 (↑y : Int))),
    fun _ => (0 : Int) ≤ IntKind.wrap IntKind.i64 (i + j) ∧ IntKind.wrap IntKind.i64 (i + j) < (520 : Int),
    fun _ => (0 : Nat) + Int.toNat (IntKind.wrap IntKind.i64 (i + j)) * (1 : Nat) + (1 : Nat) ≤ List.length (mapv (bl l))] (It.rnd [(0 : Nat), (0 : Nat), (1 : Nat), (1 : Nat), (0 : Nat), (0 : Nat), (1 : Nat), (0 : Nat), (0 : Nat), (1 : Nat), (0 : Nat), (1 : Nat), (1 : Nat), (1 : Nat), (1 : Nat)] (M + (1 : Nat)) :: kt) (St.mk [((10 : Nat), SV.v (Value.int IntKind.i64 (IntKind.wrap IntKind.i64 (j + (1 : Int))))), ((9 : Nat), SV.v (Value.int IntKind.i64 i)), ((8 : Nat), SV.sl (6 : Nat) (0 : Nat) (520 : Nat) (520 : Nat)), ((7 : Nat), SV.o (5 : Nat)), ((6 : Nat), SV.o (4 : Nat)), ((5 : Nat), SV.p (3 : Nat) (0 : Nat)), ((4 : Nat), SV.p (2 : Nat) (0 : Nat)), ((3 : Nat), SV.p (1 : Nat) (0 : Nat)), ((2 : Nat), SV.p (0 : Nat) (0 : Nat))] [HO.cells (ec a) (24 : Nat), HO.cells (ec b) (24 : Nat), HO.cells (ec (0 : Nat)) (24 : Nat), HO.cells (ec (0 : Nat)) (24 : Nat), HO.row (3 : Nat) (1 : Nat) (256 : Nat) (mapv (hvs (bl (nb a (256 : Nat))))), HO.row (3 : Nat) (1 : Nat) (256 : Nat) (mapv (hvs (bl (nb b (256 : Nat))))), HO.cells (List.take ((0 : Nat) + Int.toNat (IntKind.wrap IntKind.i64 (i + j)) * (1 : Nat)) (mapv (bl l)) ++ [SV.v (Value.int IntKind.i64 (IntKind.wrap IntKind.i64 ((↑s : Int) + (↑y : Int))))] ++ List.drop ((0 : Nat) + Int.toNat (IntKind.wrap IntKind.i64 (i + j)) * (1 : Nat) + (1 : Nat)) (mapv (bl l))) (3 : Nat)])]
  := by kernel_rfl

theorem rmulInEnd (a b M : Nat) (i j : Int) (l : List Nat) (kt : List It) : ((xgo Try.prog X (bodyOf Try.f19) 73 CI [] 30 [.f] (.nil) (.at qQ :: .rnd qQ 1 :: .blk 2 :: .blk 1 :: .at [1,1,0,0,1,0,1,1,1,1] :: .rnd qP (M + 1) :: kt) (stQ a b i j l) [] []).map (trims [9, 8, 7, 6, 5, 4, 3, 2])) =
  some [Leaf2.mk [] [fun _ => decide (j < (256 : Int)) = false] (It.rnd [(0 : Nat), (0 : Nat), (1 : Nat), (0 : Nat), (1 : Nat), (1 : Nat), (1 : Nat), (1 : Nat)] (M + (1 : Nat)) :: kt) (St.mk [((9 : Nat), SV.v (Value.int IntKind.i64 (IntKind.wrap IntKind.i64 (i + (1 : Int))))), ((8 : Nat), SV.sl (6 : Nat) (0 : Nat) (520 : Nat) (520 : Nat)), ((7 : Nat), SV.o (5 : Nat)), ((6 : Nat), SV.o (4 : Nat)), ((5 : Nat), SV.p (3 : Nat) (0 : Nat)), ((4 : Nat), SV.p (2 : Nat) (0 : Nat)), ((3 : Nat), SV.p (1 : Nat) (0 : Nat)), ((2 : Nat), SV.p (0 : Nat) (0 : Nat))] [HO.cells (ec a) (24 : Nat), HO.cells (ec b) (24 : Nat), HO.cells (ec (0 : Nat)) (24 : Nat), HO.cells (ec (0 : Nat)) (24 : Nat), HO.row (3 : Nat) (1 : Nat) (256 : Nat) (mapv (hvs (bl (nb a (256 : Nat))))), HO.row (3 : Nat) (1 : Nat) (256 : Nat) (mapv (hvs (bl (nb b (256 : Nat))))), HO.cells (mapv (bl l)) (3 : Nat)])]
  := by kernel_rfl

theorem rmulCar (a b s u M : Nat) (i : Int) (l : List Nat) (kt : List It) : ((xgo Try.prog X (bodyOf Try.f19) 73 CI [] 30 [.t, .lo 6 (.v (.int .i64 (u : Int))), .lo 6 (.v (.int .i64 (s : Int))), .lo 6 (.v (.int .i64 (s : Int)))] (.nil) (.at qR :: .rnd qR (M + 1) :: kt) (stR a b i l) [] []).map (trims [11, 8, 7, 6, 5, 4, 3, 2])) =
  some [Leaf2.mk [] [fun _ => decide (IntKind.wrap IntKind.i64 (i + (1 : Int)) < (520 : Int)) = true,
    fun _ => (0 : Int) ≤ IntKind.wrap IntKind.i64 (i + (1 : Int)) ∧ IntKind.wrap IntKind.i64 (i + (1 : Int)) < (520 : Int),
    fun _ => (mapv (bl l))[(0 : Nat) + Int.toNat (IntKind.wrap IntKind.i64 (i + (1 : Int))) * (1 : Nat)]? = some (SV.v (Value.int IntKind.i64 (↑u : Int))),
    fun _ => (0 : Int) ≤ i ∧ i < (520 : Int),
    fun _ => (mapv (bl l))[(0 : Nat) + Int.toNat i * (1 : Nat)]? = some (SV.v (Value.int IntKind.i64 (↑s : Int))),
    fun _ => ¬(2 : Int) = (0 : Int),
    fun _ => (0 : Int) ≤ IntKind.wrap IntKind.i64 (i + (1 : Int)) ∧ IntKind.wrap IntKind.i64 (i + (1 : Int)) < (520 : Int),
    fun _ => (0 : Nat) + Int.toNat (IntKind.wrap IntKind.i64 (i + (1 : Int))) * (1 : Nat) + (1 : Nat) ≤ List.length (mapv (bl l)),
    fun _ => (0 : Int) ≤ i ∧ i < (520 : Int),
    fun _ => (List.take ((0 : Nat) + Int.toNat (IntKind.wrap IntKind.i64 (i + (1 : Int))) * (1 : Nat)) (mapv (bl l)) ++ [SV.v (Value.int IntKind.i64 (IntKind.wrap IntKind.i64 ((↑u : Int) + IntKind.wrap IntKind.i64 (Int.tdiv (↑s : Int) (2 : Int)))))] ++ List.drop ((0 : Nat) + Int.toNat (IntKind.wrap IntKind.i64 (i + (1 : Int))) * (1 : Nat) + (1 : Nat)) (mapv (bl l)))[(0 : Nat) + Int.toNat i * (1 : Nat)]? = some (SV.v (Value.int IntKind.i64 (↑s : Int))),
    fun _ => ¬(2 : Int) = (0 : Int),
    fun _ => (0 : Int) ≤ i ∧ i < (520 : Int),
    fun _ => (0 : Nat) + Int.toNat i * (1 : Nat) + (1 : Nat) ≤ List.length (List.take ((0 : Nat) + Int.toNat (IntKind.wrap IntKind.i64 (i + (1 : Int))) * (1 : Nat)) (mapv (bl l)) ++ [SV.v (Value.int IntKind.i64 (IntKind.wrap IntKind.i64 ((↑u : Int) + IntKind.wrap IntKind.i64 (Int.tdiv (↑s : Int) (2 : Int)))))] ++ List.drop ((0 : Nat) + Int.toNat (IntKind.wrap IntKind.i64 (i + (1 : Int))) * (1 : Nat) + (1 : Nat)) (mapv (bl l)))] (It.rnd [(0 : Nat), (0 : Nat), (1 : Nat), (0 : Nat), (1 : Nat), (1 : Nat), (1 : Nat), (1 : Nat), (1 : Nat)] (M + (1 : Nat)) :: kt) (St.mk [((11 : Nat), SV.v (Value.int IntKind.i64 (IntKind.wrap IntKind.i64 (i + (1 : Int))))), ((8 : Nat), SV.sl (6 : Nat) (0 : Nat) (520 : Nat) (520 : Nat)), ((7 : Nat), SV.o (5 : Nat)), ((6 : Nat), SV.o (4 : Nat)), ((5 : Nat), SV.p (3 : Nat) (0 : Nat)), ((4 : Nat), SV.p (2 : Nat) (0 : Nat)), ((3 : Nat), SV.p (1 : Nat) (0 : Nat)), ((2 : Nat), SV.p (0 : Nat) (0 : Nat))] [HO.cells (ec a) (24 : Nat), HO.cells (ec b) (24 : Nat), HO.cells (ec (0 : Nat)) (24 : Nat), HO.cells (ec (0 : Nat)) (24 : Nat), HO.row (3 : Nat) (1 : Nat) (256 : Nat) (mapv (hvs (bl (nb a (256 : Nat))))), HO.row (3 : Nat) (1 : Nat) (256 : Nat) (mapv (hvs (bl (nb b (256 : Nat))))), HO.cells (List.take ((0 : Nat) + Int.toNat i * (1 : Nat)) (List.take ((0 : Nat) + Int.toNat (IntKind.wrap IntKind.i64 (i + (1 : Int))) * (1 : Nat)) (mapv (bl l)) ++ [SV.v (Value.int IntKind.i64 (IntKind.wrap IntKind.i64 ((↑u : Int) + IntKind.wrap IntKind.i64 (Int.tdiv (↑s : Int) (2 : Int)))))] ++ List.drop ((0 : Nat) + Int.toNat (IntKind.wrap IntKind.i64 (i + (1 : Int))) * (1 : Nat) + (1 : Nat)) (mapv (bl l))) ++ [SV.v (Value.int IntKind.i64 (Int.tmod (↑s : Int) (2 : Int)))] ++ List.drop ((0 : Nat) + Int.toNat i * (1 : Nat) + (1 : Nat)) (List.take ((0 : Nat) + Int.toNat (IntKind.wrap IntKind.i64 (i + (1 : Int))) * (1 : Nat)) (mapv (bl l)) ++ [SV.v (Value.int IntKind.i64 (IntKind.wrap IntKind.i64 ((↑u : Int) + IntKind.wrap IntKind.i64 (Int.tdiv (↑s : Int) (2 : Int)))))] ++ List.drop ((0 : Nat) + Int.toNat (IntKind.wrap IntKind.i64 (i + (1 : Int))) * (1 : Nat) + (1 : Nat)) (mapv (bl l)))) (3 : Nat)])]
  := by kernel_rfl

theorem rmulEnd (a b : Nat) (i : Int) (l : List Nat) : (((xgo Try.prog X (bodyOf Try.f19) 73 CI [] 30 [.f] (.nil) [.at qR, .rnd qR 1, .blk 4, .at [1,1,1,1,1,1]] (stR a b i l) [] []).bind (ends Try.prog Try.f19.results.toList)).bind plainE) =
  some [EndP.mk [] [fun _ => decide (IntKind.wrap IntKind.i64 (i + (1 : Int)) < (520 : Int)) = false,
    fun _ => (0 : Int) ≤ (256 : Int) ∧ (256 : Int) ≤ (520 : Int),
    fun _ => (0 : Int) ≤ (512 : Int) ∧ (512 : Int) ≤ (520 : Int),
    fun _ => (0 : Int) ≤ (256 : Int) ∧ (256 : Int) ≤ (512 : Int),
    fun _ => List.take (256 : Nat) (List.drop (0 : Nat) (mapv (bl l))) = mapv (unv (List.take (256 : Nat) (List.drop (0 : Nat) (mapv (bl l))))),
    fun _ => (0 : Nat) < (256 : Nat) ∧ unv (List.take (256 : Nat) (List.drop (0 : Nat) (mapv (bl l)))) = bl (unbl (unv (List.take (256 : Nat) (List.drop (0 : Nat) (mapv (bl l)))))) ∧ List.length (unbl (unv (List.take (256 : Nat) (List.drop (0 : Nat) (mapv (bl l)))))) = (256 : Nat) ∧ ∀ (b : Nat), b ∈ unbl (unv (List.take (256 : Nat) (List.drop (0 : Nat) (mapv (bl l))))) → b ≤ (1 : Nat),
    fun _ => List.take (256 : Nat) (List.drop (256 : Nat) (mapv (bl l))) = mapv (unv (List.take (256 : Nat) (List.drop (256 : Nat) (mapv (bl l))))),
    fun _ => (0 : Nat) < (256 : Nat) ∧ unv (List.take (256 : Nat) (List.drop (256 : Nat) (mapv (bl l)))) = bl (unbl (unv (List.take (256 : Nat) (List.drop (256 : Nat) (mapv (bl l)))))) ∧ List.length (unbl (unv (List.take (256 : Nat) (List.drop (256 : Nat) (mapv (bl l)))))) = (256 : Nat) ∧ ∀ (b : Nat), b ∈ unbl (unv (List.take (256 : Nat) (List.drop (256 : Nat) (mapv (bl l))))) → b ≤ (1 : Nat),
    fun _ => (0 : Nat) + (4 : Nat) ≤ (4 : Nat),
    fun _ => (0 : Nat) + (4 : Nat) ≤ (4 : Nat)] (Res.v (Value.tuple (Array.mk [el (hide (vb (List.take (256 : Nat) (unbl (unv (List.take (256 : Nat) (List.drop (0 : Nat) (mapv (bl l))))))))), el (hide (vb (List.take (256 : Nat) (unbl (unv (List.take (256 : Nat) (List.drop (256 : Nat) (mapv (bl l)))))))))])))]
  := by kernel_rfl

theorem rmul_inner {w : World} {fin : Exit → Act → World → Prop} (hfin : ∀ c (a : Act) (d : Option Tmp) (v : Value) (w : World), fin (.panic c) (a.put d v) w → fin (.panic c) a w)
    (a b i V M : Nat) (kt : List It) (hi : i < 256)
    (next : ∀ l : List Nat, l.length = 520 → (∀ x ∈ l, x ≤ 256 * (i + 1)) → vb l = V + 2 ^ i * (b % 2 ^ 256) → Ok Try.prog (bodyOf Try.f19) 73 (F0 w) w fin (.rnd qP (M + 1) :: kt) (stP a b ((i + 1 : Nat) : Int) l)) :
    ∀ (k j : Nat) (l : List Nat), j + k = 256 → l.length = 520 → (∀ x ∈ l, x ≤ 256 * i + j) → vb l = V + 2 ^ i * (b % 2 ^ j) →
    Ok Try.prog (bodyOf Try.f19) 73 (F0 w) w fin (.rnd qQ (k + 2) :: .blk 2 :: .blk 1 :: .at [1,1,0,0,1,0,1,1,1,1] :: .rnd qP (M + 1) :: kt) (stQ a b i (j : Int) l)
  | 0, j, l, hj, hl, hb, hv => by
    have hj : j = 256 := by omega
    subst hj
    have ei : IntKind.wrap .i64 ((i : Int) + 1) = ((i + 1 : Nat) : Int) := wrap_i64 (i + 1) (by omega)
    refine Ok.rnd (xgo_trim hm (F0.mono w) hfin 30 _ _ _ _ _ _ (rmulInEnd a b M i _ l kt) (paidCons (fun _ => ⟨?_, ?_⟩) paidNil))
    · simp only [hold_cons, hold_nil, and_true]
      exact fun _ _ => decide_eq_false (by omega)
    · refine ok_mono ?_ (next l hl (fun x hx => by have := hb x hx; omega) hv)
      simp only [ei]
      rfl
  | k + 1, j, l, hj, hl, hb, hv => by
    have ek : IntKind.wrap .i64 ((i : Int) + (j : Int)) = ((i + j : Nat) : Int) := wrap_i64 (i + j) (by omega)
    have ek2 : (0 : Nat) + Int.toNat ((i + j : Nat) : Int) * 1 = i + j := by rw [Int.toNat_natCast]; omega
    have hs : l.getD (i + j) 0 ≤ 256 * i + j := getD_le l _ _ hb
    have hy : b / 2 ^ j % 2 < 2 := Nat.mod_lt _ (by omega)
    have ew : IntKind.wrap .i64 (((l.getD (i + j) 0 : Nat) : Int) + ((b / 2 ^ j % 2 : Nat) : Int)) = ((l.getD (i + j) 0 + b / 2 ^ j % 2 : Nat) : Int) := wrap_i64 _ (by omega)
    have ej : IntKind.wrap .i64 ((j : Int) + 1) = ((j + 1 : Nat) : Int) := wrap_i64 (j + 1) (by omega)
    have hij : i + j < l.length := by omega
    refine Ok.rnd (xgo_trim hm (F0.mono w) hfin 30 _ _ _ _ _ _ (rmulIn a b (l.getD (i + j) 0) (b / 2 ^ j % 2) (k + 1) i j l _) (paidCons (fun _ => ⟨?_, ?_⟩) paidNil))
    · simp only [hold_cons, hold_nil, and_true, ek, ek2, mapv_length, hl]
      exact ⟨fun _ _ => decide_eq_true (by omega), fun _ _ => ⟨by omega, by omega⟩, fun _ _ => mapv_at l _ hij, fun _ _ => ⟨by omega, by omega⟩, fun _ _ => nb_row_pos b, fun _ _ => nb_row b j (by omega), fun _ _ => ⟨by omega, by omega⟩, fun _ _ => by omega⟩
    · refine ok_mono ?_ (rmul_inner hfin a b i V M kt hi next k (j + 1) (l.set (i + j) (l.getD (i + j) 0 + b / 2 ^ j % 2)) (by omega) (by simpa using hl) (set_le l _ _ _ (fun x hx => by have := hb x hx; omega) (by omega)) ?_)
      · simp only [ek, ek2, ew, ej, putv l _ _ hij]
        rfl
      · have h1 := vb_set l (i + j) (l.getD (i + j) 0 + b / 2 ^ j % 2) hij
        rw [Nat.mul_add, Nat.pow_add] at h1
        rw [mod_succ, Nat.mul_add, ← Nat.mul_assoc]
        omega
theorem rmul_outer {w : World} {fin : Exit → Act → World → Prop} (hfin : ∀ c (a : Act) (d : Option Tmp) (v : Value) (w : World), fin (.panic c) (a.put d v) w → fin (.panic c) a w)
    (a b : Nat) (hb1 : b < top)
    (next : ∀ l : List Nat, l.length = 520 → (∀ x ∈ l, x ≤ 65536) → vb l = a % 2 ^ 256 * b → Ok Try.prog (bodyOf Try.f19) 73 (F0 w) w fin [.at qP, .rnd qP 1, .blk 0, .at [1,1,1,1,1]] (stP a b ((256 : Nat) : Int) l)) :
    ∀ (k i : Nat) (l : List Nat), i + k = 256 → l.length = 520 → (∀ x ∈ l, x ≤ 256 * i) → vb l = a % 2 ^ i * b →
    Ok Try.prog (bodyOf Try.f19) 73 (F0 w) w fin (.rnd qP (k + 2) :: [.blk 0, .at [1,1,1,1,1]]) (stP a b (i : Int) l)
  | 0, i, l, hi, hl, hb, hv => by
    have hi : i = 256 := by omega
    subst hi
    exact Ok.rnd (next l hl (fun x hx => by have := hb x hx; omega) hv)
  | k + 1, i, l, hi, hl, hb, hv => by
    have hx2 : a / 2 ^ i % 2 < 2 := Nat.mod_lt _ (by omega)
    have hr := mul_round a b i
    have rx := nb_row a i (by omega)
    have hbm : b % 2 ^ 256 = b := by rw [pow256]; exact Nat.mod_eq_of_lt hb1
    have ei : IntKind.wrap .i64 ((i : Int) + 1) = ((i + 1 : Nat) : Int) := wrap_i64 (i + 1) (by omega)
    refine Ok.rnd ((xgo_sound hm (F0.mono w) hfin 30 _ _ _ _ [] [] _ (rmulRound a b (a / 2 ^ i % 2) (k + 1) i l _) (paidCons (fun has => ⟨?_, ?_⟩) (paidCons (fun has => ⟨?_, ?_⟩) paidNil)) (fun a ha => by cases ha)).2)
    · have h0 := has _ List.mem_cons_self
      simp only [hold_cons, hold_nil, and_true]
      exact ⟨fun _ _ => decide_eq_true (by omega), fun _ _ => ⟨by omega, by omega⟩, fun _ _ => nb_row_pos a, fun _ _ => rx, fun _ _ => h0⟩
    · have h0 := has _ List.mem_cons_self
      have hz : a / 2 ^ i % 2 = 0 := by
        have := of_decide_eq_true h0
        exact Int.ofNat_inj.1 this
      rw [hz, Nat.zero_mul, Nat.mul_zero, Nat.add_zero] at hr
      refine Ok.trim [9, 8, 7, 6, 5, 4, 3, 2] (ok_mono ?_ (rmul_outer hfin a b hb1 next k (i + 1) l (by omega) hl (fun x hx => by have := hb x hx; omega) (by rw [hr]; exact hv)))
      simp only [stP, hpP, ei]
      rfl
    · have h0 := has _ List.mem_cons_self
      simp only [hold_cons, hold_nil, and_true]
      exact ⟨fun _ _ => decide_eq_true (by omega), fun _ _ => ⟨by omega, by omega⟩, fun _ _ => nb_row_pos a, fun _ _ => rx, fun _ _ => h0⟩
    · have h0 := has _ List.mem_cons_self
      have hz : a / 2 ^ i % 2 = 1 := by
        have h1 := of_decide_eq_false h0
        have h2 : a / 2 ^ i % 2 ≠ 0 := fun h => h1 (by rw [h]; rfl)
        omega
      rw [hz, Nat.one_mul] at hr
      refine Ok.trim [10, 9, 8, 7, 6, 5, 4, 3, 2] (ok_mono (st := stQ a b i ((0 : Nat) : Int) l) rfl (Ok.loop 258 (by kernel_rfl) (rmul_inner hfin a b i (a % 2 ^ i * b) (k + 1) _ (by omega) (fun l' hl' hb' hv' => ?_) 256 0 l (by omega) hl hb (by rw [Nat.pow_zero, Nat.mod_one, Nat.mul_zero, Nat.add_zero]; exact hv))))
      exact rmul_outer hfin a b hb1 next k (i + 1) l' (by omega) hl' hb' (by rw [hr, hv', hbm])
theorem rmul_carry {w : World} {fin : Exit → Act → World → Prop} (hfin : ∀ c (a : Act) (d : Option Tmp) (v : Value) (w : World), fin (.panic c) (a.put d v) w → fin (.panic c) a w)
    (a b V : Nat)
    (next : ∀ l : List Nat, l.length = 520 → (∀ q, q < 519 → l.getD q 0 ≤ 1) → vb l = V → Ok Try.prog (bodyOf Try.f19) 73 (F0 w) w fin [.at qR, .rnd qR 1, .blk 4, .at [1,1,1,1,1,1]] (stR a b ((519 : Nat) : Int) l)) :
    ∀ (k i : Nat) (l : List Nat), i + k = 519 → l.length = 520 → (∀ q, q < i → l.getD q 0 ≤ 1) → (∀ q, i < q → l.getD q 0 ≤ 65536) → l.getD i 0 ≤ 131072 → vb l = V →
    Ok Try.prog (bodyOf Try.f19) 73 (F0 w) w fin (.rnd qR (k + 2) :: [.blk 4, .at [1,1,1,1,1,1]]) (stR a b (i : Int) l)
  | 0, i, l, hi, hl, h1, h2, h3, hv => by
    have hi : i = 519 := by omega
    subst hi
    exact Ok.rnd (next l hl h1 hv)
  | k + 1, i, l, hi, hl, h1, h2, h3, hv => by
    have hu := h2 (i + 1) (by omega)
    have hil : i < l.length := by omega
    have hil1 : i + 1 < l.length := by omega
    generalize hs : l.getD i 0 = s at *
    generalize hu' : l.getD (i + 1) 0 = u at *
    have ei : IntKind.wrap .i64 ((i : Int) + 1) = ((i + 1 : Nat) : Int) := wrap_i64 (i + 1) (by omega)
    have ek : (0 : Nat) + Int.toNat ((i + 1 : Nat) : Int) * 1 = i + 1 := by rw [Int.toNat_natCast]; omega
    have ek0 : (0 : Nat) + Int.toNat (i : Int) * 1 = i := by rw [Int.toNat_natCast]; omega
    have ed : Int.tdiv (s : Int) 2 = ((s / 2 : Nat) : Int) := tdivNat s 2
    have em : Int.tmod (s : Int) 2 = ((s % 2 : Nat) : Int) := tmodNat s 2
    have ew1 : IntKind.wrap .i64 ((s / 2 : Nat) : Int) = ((s / 2 : Nat) : Int) := wrap_i64 _ (by omega)
    have ew2 : IntKind.wrap .i64 ((u : Int) + ((s / 2 : Nat) : Int)) = ((u + s / 2 : Nat) : Int) := wrap_i64 (u + s / 2) (by omega)
    have hl1 : (l.set (i + 1) (u + s / 2)).length = 520 := by simpa using hl
    have hs1 : (l.set (i + 1) (u + s / 2)).getD i 0 = s := by rw [lset_ne _ _ _ _ (by omega), hs]
    have gu := mapv_at l (i + 1) hil1
    have gs := mapv_at l i hil
    have gs1 := mapv_at (l.set (i + 1) (u + s / 2)) i (by omega)
    rw [hu'] at gu
    rw [hs] at gs
    rw [hs1] at gs1
    have p1 := putv l (i + 1) (u + s / 2) hil1
    have p2 := putv (l.set (i + 1) (u + s / 2)) i (s % 2) (by omega)
    refine Ok.rnd (xgo_trim hm (F0.mono w) hfin 30 _ _ _ _ _ _ (rmulCar a b s u (k + 1) i l _) (paidCons (fun _ => ⟨?_, ?_⟩) paidNil))
    · simp only [hold_cons, hold_nil, and_true, ei, ek, ek0, ed, ew1, ew2, p1, mapv_length, hl, hl1]
      exact ⟨fun _ _ => decide_eq_true (by omega), fun _ _ => ⟨by omega, by omega⟩, fun _ _ => gu, fun _ _ => ⟨by omega, by omega⟩, fun _ _ => gs, fun _ _ => by omega, fun _ _ => ⟨by omega, by omega⟩, fun _ _ => by omega, fun _ _ => ⟨by omega, by omega⟩, fun _ _ => gs1, fun _ _ => by omega, fun _ _ => ⟨by omega, by omega⟩, fun _ _ => by omega⟩
    · refine ok_mono ?_ (rmul_carry hfin a b V next k (i + 1) ((l.set (i + 1) (u + s / 2)).set i (s % 2)) (by omega) (by simpa using hl) ?_ ?_ ?_ ?_)
      · simp only [ei, ek, ek0, ed, em, ew1, ew2, p1, p2]
        rfl
      · intro q hq
        by_cases h : i = q
        · subst h
          rw [lset_same _ _ _ (by omega)]
          omega
        · rw [lset_ne _ _ _ _ h, lset_ne _ _ _ _ (by omega)]
          exact h1 q (by omega)
      · intro q hq
        rw [lset_ne _ _ _ _ (by omega), lset_ne _ _ _ _ (by omega)]
        exact h2 q (by omega)
      · rw [lset_ne _ _ _ _ (by omega), lset_same _ _ _ hil1]
        omega
      · have v1 := vb_set l (i + 1) (u + s / 2) hil1
        have v2 := vb_set (l.set (i + 1) (u + s / 2)) i (s % 2) (by omega)
        rw [hu', Nat.mul_add, Nat.pow_succ, Nat.mul_assoc, Nat.mul_assoc] at v1
        rw [hs1] at v2
        have h5 : 2 ^ i * s = 2 ^ i * (2 * (s / 2)) + 2 ^ i * (s % 2) := by rw [← Nat.mul_add]; congr 1; omega
        omega
theorem rmul_ok (a b : Nat) (ha : a < top) (hb : b < top) (w : World) : Calls Try.prog 19 [el a, el b].toArray w (fun E w' => ∃ v, E = .returned v ∧ Res.ok w w' (.v (.tuple #[el (a * b % top), el (a * b / top)])) v ∧ Below w.heap.size w w') := by
  refine con_end (calls_of_ok (B := bodyOf Try.f19) (n := 73) Try.func19 (by kernel_rfl) rfl rfl (F := F0 w) (fun _ _ h => h) ?_)
  have hF := F0.mono w
  refine xgo_trim hm hF finB 50 _ _ _ _ _ _ (rmulStart a b) (paidCons (fun _ => ⟨?_, ?_⟩) paidNil)
  · simp only [hold_cons, hold_nil, and_true, elN_eq ha, elN_eq hb]
    exact ⟨fun _ _ => trivial, fun _ _ => trivial, fun _ _ => ⟨by omega, by omega, by omega, by omega⟩⟩
  · refine ok_mono (st := stP a b ((0 : Nat) : Int) (List.replicate 520 0)) ?_ (Ok.loop 258 (by kernel_rfl) (rmul_outer finB a b hb (fun l hl hbd hv => ?_) 256 0 (List.replicate 520 0) (by omega) List.length_replicate (fun x hx => by rw [List.mem_replicate] at hx; omega) (by rw [vb_zeros, Nat.pow_zero, Nat.mod_one, Nat.zero_mul])))
    · simp only [stP, hpP, elN_eq ha, elN_eq hb, ec_zero]
      rfl
    · rw [pow256, Nat.mod_eq_of_lt ha] at hv
      refine (xgo_sound hm hF finB 30 _ _ _ _ [] [] _ (rmulMid a b _ l) (paidCons (fun _ => ⟨?_, ?_⟩) paidNil) (fun a ha => by cases ha)).2
      · simp only [hold_cons, hold_nil, and_true]
        exact fun _ _ => decide_eq_false (by omega)
      · refine Ok.trim [11, 8, 7, 6, 5, 4, 3, 2] (ok_mono (st := stR a b ((0 : Nat) : Int) l) rfl (Ok.loop 521 (by kernel_rfl) (rmul_carry finB a b (a * b) (fun l' hl' hb' hv' => ?_) 519 0 l (by omega) hl (fun q hq => by omega) (fun q _ => getD_le l q _ hbd) (Nat.le_trans (getD_le l 0 _ hbd) (by omega)) hv)))
        have hab : a * b < top * top := Nat.mul_lt_mul'' ha hb
        have hlast : l'.getD 519 0 = 0 := by
          have h1 := vb_get_le l' 519
          rw [hv'] at h1
          have h3 : top * top ≤ 2 ^ 519 := top_sq 519 (by omega)
          rcases Nat.eq_zero_or_pos (l'.getD 519 0) with h | h
          · exact h
          · exact absurd (Nat.lt_of_lt_of_le hab (Nat.le_trans h3 (Nat.le_trans (Nat.le_mul_of_pos_right _ h) h1))) (Nat.lt_irrefl _)
        have hbits : ∀ x ∈ l', x ≤ 1 := all_of_get l' 1 (fun q hq => by
          by_cases h : q < 519
          · exact hb' q h
          · have : q = 519 := by omega
            subst this
            omega)
        obtain ⟨g1, g2⟩ := vb_halves l' hl' hbits
        rw [hv', pow256] at g1 g2
        have t1 : (l'.take 256).length = 256 := by rw [List.length_take, hl']; rfl
        have t2 : ((l'.drop 256).take 256).length = 256 := by rw [List.length_take, List.length_drop, hl']; rfl
        have k1 : List.take 256 (l'.take 256) = l'.take 256 := by rw [List.take_of_length_le (by omega)]
        have k2 : List.take 256 ((l'.drop 256).take 256) = (l'.drop 256).take 256 := by rw [List.take_of_length_le (by omega)]
        refine ok_plain hm hF (fun _ h => h) 30 _ _ _ _ (rmulEnd a b _ l') ⟨fun _ => ⟨?_, ?_⟩, trivial⟩
        · simp only [hold_cons, hold_nil, and_true, mapv_take, mapv_drop, unv_mapv', unbl_bl, List.drop_zero]
          refine ⟨fun _ _ => rfl, fun _ _ => ⟨by omega, by omega⟩, fun _ _ => ⟨by omega, by omega⟩, fun _ _ => ⟨by omega, by omega⟩, fun _ _ => trivial, fun _ _ => ⟨by omega, trivial, t1, fun x hx => hbits x (List.mem_of_mem_take hx)⟩, fun _ _ => trivial, fun _ _ => ⟨by omega, trivial, t2, fun x hx => hbits x (List.mem_of_mem_drop (List.mem_of_mem_take hx))⟩, fun _ _ => by omega, fun _ _ => by omega⟩
        · simp only [mapv_take, mapv_drop, unv_mapv', unbl_bl, List.drop_zero, k1, k2, hide_eq, g1, g2, el_mod]
end Go.Proofs.Ytcipmpamhffclaa
