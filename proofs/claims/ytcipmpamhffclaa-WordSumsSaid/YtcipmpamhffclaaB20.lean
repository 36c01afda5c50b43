/- The document's comparison of two numbers. -/
import Derived.Test.YtcipmpamhffclaaB19
namespace Go.Pl
theorem div_succ (a k : Nat) : a / 2 ^ k = 2 * (a / 2 ^ (k + 1)) + a / 2 ^ k % 2 := by
  have : a / 2 ^ (k + 1) = a / 2 ^ k / 2 := by rw [Nat.pow_succ, Nat.div_div_eq_div_mul]
  rw [this]
  omega
/-- Where the first bit from above differs, the numbers compare as the bits do. -/
theorem less_bit (a b k : Nat) (h : a / 2 ^ (k + 1) = b / 2 ^ (k + 1)) (hne : a / 2 ^ k % 2 ≠ b / 2 ^ k % 2) : a / 2 ^ k % 2 < b / 2 ^ k % 2 ↔ a < b := by
  have ha := div_succ a k
  have hb := div_succ b k
  rw [h] at ha
  have hp : 0 < 2 ^ k := Nat.two_pow_pos k
  constructor
  · intro hlt
    have : a / 2 ^ k < b / 2 ^ k := by omega
    exact Nat.lt_of_not_le fun hle => by
      have := Nat.div_le_div_right (c := 2 ^ k) hle
      omega
  · intro hlt
    have := Nat.div_le_div_right (c := 2 ^ k) (Nat.le_of_lt hlt)
    omega
end Go.Pl
namespace Go.Proofs.Ytcipmpamhffclaa
open Go.Sx Go.Pl Go.RowKit
theorem lessStart (a b : Nat) : ((xgo Try.prog X (bodyOf Try.f17) 34 CH [] 50 [] (Tree.nil) [.at []] ⟨argsTm 0 [el a, el b], []⟩ [] []).map (trims [7, 6, 5, 4, 3, 2])) =
  some [Leaf2.mk [] [fun _ => el a = el (elN a),
    fun _ => el b = el (elN b)] [It.at [(0 : Nat), (1 : Nat), (0 : Nat), (1 : Nat), (1 : Nat), (1 : Nat)], It.blk (0 : Nat), It.at [(1 : Nat), (1 : Nat), (1 : Nat), (1 : Nat)]] (St.mk [((7 : Nat), SV.v (Value.int IntKind.i64 (255 : Int))), ((6 : Nat), SV.o (3 : Nat)), ((5 : Nat), SV.o (2 : Nat)), ((4 : Nat), SV.v (Value.bool false)), ((3 : Nat), SV.p (1 : Nat) (0 : Nat)), ((2 : Nat), SV.p (0 : Nat) (0 : Nat))] [HO.cells (ec a) (24 : Nat), HO.cells (ec b) (24 : Nat), HO.row (3 : Nat) (1 : Nat) (256 : Nat) (mapv (hvs (bl (nb (elN a) (256 : Nat))))), HO.row (3 : Nat) (1 : Nat) (256 : Nat) (mapv (hvs (bl (nb (elN b) (256 : Nat)))))])]
  := by kernel_rfl

theorem lessRound (a b M x y : Nat) (i : Int) (kt : List It) : ((xgo Try.prog X (bodyOf Try.f17) 34 CH [] 30 [.t, .lo 2 (.v (.int .i64 (x : Int))), .lo 3 (.v (.int .i64 (y : Int)))] ((.br [.lo 2 (.v (.int .i64 (x : Int))), .lo 3 (.v (.int .i64 (y : Int)))] .nil [] .nil)) (.at qL :: .rnd qL (M + 1) :: kt) (stL a b i) [] []).map (trims [7, 6, 5, 4, 3, 2])) =
  some [Leaf2.mk [(!(↑x : Int) == (↑y : Int)) = true] [fun _ => decide ((0 : Int) ≤ i) = true,
    fun _ => (0 : Int) ≤ i ∧ i < (256 : Int),
    fun _ => (0 : Nat) < List.length (mapv (hvs (bl (nb a (256 : Nat))))),
    fun _ => (mapv (hvs (bl (nb a (256 : Nat)))))[Int.toNat i * (1 : Nat)]? = some (SV.v (Value.int IntKind.i64 (↑x : Int))),
    fun _ => (0 : Int) ≤ i ∧ i < (256 : Int),
    fun _ => (0 : Nat) < List.length (mapv (hvs (bl (nb b (256 : Nat))))),
    fun _ => (mapv (hvs (bl (nb b (256 : Nat)))))[Int.toNat i * (1 : Nat)]? = some (SV.v (Value.int IntKind.i64 (↑y : Int))),
    fun _ => (!(↑x : Int) == (↑y : Int)) = true,
    fun _ => (0 : Int) ≤ i ∧ i < (256 : Int),
    fun _ => (0 : Nat) < List.length (mapv (hvs (bl (nb a (256 : Nat))))),
    fun _ => (mapv (hvs (bl (nb a (256 : Nat)))))[Int.toNat i * (1 : Nat)]? = some (SV.v (Value.int IntKind.i64 (↑x : Int))),
    fun _ => (0 : Int) ≤ i ∧ i < (256 : Int),
    fun _ => (0 : Nat) < List.length (mapv (hvs (bl (nb b (256 : Nat))))),
    fun _ => (mapv (hvs (bl (nb b (256 : Nat)))))[Int.toNat i * (1 : Nat)]? = some (SV.v (Value.int IntKind.i64 (↑y : Int)))] (It.ret :: It.blk (1 : Nat) :: It.at [(1 : Nat), (1 : Nat), (0 : Nat), (0 : Nat), (1 : Nat), (0 : Nat), (1 : Nat), (1 : Nat), (1 : Nat)] :: It.rnd [(0 : Nat), (0 : Nat), (1 : Nat), (0 : Nat), (1 : Nat), (1 : Nat), (1 : Nat)] (M + (1 : Nat)) :: kt) (St.mk [((7 : Nat), SV.v (Value.int IntKind.i64 i)), ((6 : Nat), SV.o (3 : Nat)), ((5 : Nat), SV.o (2 : Nat)), ((4 : Nat), SV.v (Value.bool (decide ((↑x : Int) < (↑y : Int))))), ((3 : Nat), SV.p (1 : Nat) (0 : Nat)), ((2 : Nat), SV.p (0 : Nat) (0 : Nat))] [HO.cells (ec a) (24 : Nat), HO.cells (ec b) (24 : Nat), HO.row (3 : Nat) (1 : Nat) (256 : Nat) (mapv (hvs (bl (nb a (256 : Nat))))), HO.row (3 : Nat) (1 : Nat) (256 : Nat) (mapv (hvs (bl (nb b (256 : Nat)))))]),
  Leaf2.mk [(!(↑x : Int) == (↑y : Int)) = false] [fun _ => decide ((0 : Int) ≤ i) = true,
    fun _ => (0 : Int) ≤ i ∧ i < (256 : Int),
    fun _ => (0 : Nat) < List.length (mapv (hvs (bl (nb a (256 : Nat))))),
    fun _ => (mapv (hvs (bl (nb a (256 : Nat)))))[Int.toNat i * (1 : Nat)]? = some (SV.v (Value.int IntKind.i64 (↑x : Int))),
    fun _ => (0 : Int) ≤ i ∧ i < (256 : Int),
    fun _ => (0 : Nat) < List.length (mapv (hvs (bl (nb b (256 : Nat))))),
    fun _ => (mapv (hvs (bl (nb b (256 : Nat)))))[Int.toNat i * (1 : Nat)]? = some (SV.v (Value.int IntKind.i64 (↑y : Int))),
    fun _ => (!(↑x : Int) == (↑y : Int)) = false] (It.rnd [(0 : Nat), (0 : Nat), (1 : Nat), (0 : Nat), (1 : Nat), (1 : Nat), (1 : Nat)] (M + (1 : Nat)) :: kt) (St.mk [((7 : Nat), SV.v (Value.int IntKind.i64 (IntKind.wrap IntKind.i64 (i - (1 : Int))))), ((6 : Nat), SV.o (3 : Nat)), ((5 : Nat), SV.o (2 : Nat)), ((4 : Nat), SV.v (Value.bool false)), ((3 : Nat), SV.p (1 : Nat) (0 : Nat)), ((2 : Nat), SV.p (0 : Nat) (0 : Nat))] [HO.cells (ec a) (24 : Nat), HO.cells (ec b) (24 : Nat), HO.row (3 : Nat) (1 : Nat) (256 : Nat) (mapv (hvs (bl (nb a (256 : Nat))))), HO.row (3 : Nat) (1 : Nat) (256 : Nat) (mapv (hvs (bl (nb b (256 : Nat)))))])]
  := by kernel_rfl

theorem lessEnd (a b : Nat) (i : Int) : (((xgo Try.prog X (bodyOf Try.f17) 34 CH [] 30 [.f] (.nil) [.at qL, .rnd qL 1, .blk 0, .at [1,1,1,1]] (stL a b i) [] []).bind (ends Try.prog Try.f17.results.toList)).bind plainE) =
  some [EndP.mk [] [fun _ => decide ((0 : Int) ≤ i) = false] (Res.v (Value.bool false))]
  := by kernel_rfl

theorem nb_row (a i : Nat) (h : i < 256) : (mapv (hvs (bl (nb a (256 : Nat)))))[Int.toNat (i : Int) * (1 : Nat)]? = some (SV.v (Value.int IntKind.i64 ((a / 2 ^ i % 2 : Nat) : Int))) := by
  rw [hvs_eq, Int.toNat_natCast, Nat.mul_one, mapv_get _ _ (by rw [nb_length]; exact h), hide_eq, nb_get a 256 i h]
theorem nb_row_pos (a : Nat) : (0 : Nat) < List.length (mapv (hvs (bl (nb a (256 : Nat))))) := by
  rw [hvs_eq, mapv_length, nb_length]; omega
theorem rless_loop {w : World} (a b : Nat) (ha : a < top) (hb : b < top) : ∀ k : Nat, k ≤ 256 → a / 2 ^ k = b / 2 ^ k →
    Ok Try.prog (bodyOf Try.f17) 34 (F0 w) w (bodyPost Try.prog Try.f17 fun E w' => ∃ v r, E = .returned v ∧ r = Res.v (.bool (decide (a < b))) ∧ r.ok w w' v ∧ Below w.heap.size w w') (.rnd qL (k + 2) :: [.blk 0, .at [1,1,1,1]]) (stL a b ((k : Int) - 1))
  | 0, _, he => by
    refine Ok.rnd ?_
    refine ok_plain hm (F0.mono w) (fun _ h => h) 30 _ _ _ _ (lessEnd a b _) ⟨fun _ => ⟨?_, ?_⟩, trivial⟩
    · simp only [hold_cons, hold_nil, and_true]
      exact fun _ _ => decide_eq_false (by omega)
    · have : a = b := by simpa using he
      subst this
      simp
  | k + 1, hk, he => by
    have h1 : (((k + 1 : Nat) : Int) - 1) = (k : Int) := by omega
    rw [h1]
    refine Ok.rnd (xgo_trim hm (F0.mono w) finB 30 _ _ _ _ _ _ (lessRound a b (k + 1) (a / 2 ^ k % 2) (b / 2 ^ k % 2) k _) (paidCons (fun has => ⟨?_, ?_⟩) (paidCons (fun has => ⟨?_, ?_⟩) paidNil)))
    · have h0 := has _ List.mem_cons_self
      simp only [hold_cons, hold_nil, and_true]
      exact ⟨fun _ _ => decide_eq_true (by omega), fun _ _ => ⟨by omega, by omega⟩, fun _ _ => nb_row_pos a, fun _ _ => nb_row a k (by omega), fun _ _ => ⟨by omega, by omega⟩, fun _ _ => nb_row_pos b, fun _ _ => nb_row b k (by omega), fun _ _ => h0,
        fun _ _ => ⟨by omega, by omega⟩, fun _ _ => nb_row_pos a, fun _ _ => nb_row a k (by omega), fun _ _ => ⟨by omega, by omega⟩, fun _ _ => nb_row_pos b, fun _ _ => nb_row b k (by omega)⟩
    · have h0 := has _ List.mem_cons_self
      have hne : a / 2 ^ k % 2 ≠ b / 2 ^ k % 2 := fun h => by rw [h] at h0; simp at h0
      have hl := less_bit a b k he hne
      refine Ok.ret (.v (.bool (decide (((a / 2 ^ k % 2 : Nat) : Int) < ((b / 2 ^ k % 2 : Nat) : Int))))) rfl fun e w' S => ⟨_, _, rfl, rfl, ?_, below_of (fun _ h => h) S⟩
      show Value.bool _ = Value.bool _
      congr 1
      rw [Bool.eq_iff_iff, decide_eq_true_iff, decide_eq_true_iff, ← hl]
      omega
    · have h0 := has _ List.mem_cons_self
      simp only [hold_cons, hold_nil, and_true]
      exact ⟨fun _ _ => decide_eq_true (by omega), fun _ _ => ⟨by omega, by omega⟩, fun _ _ => nb_row_pos a, fun _ _ => nb_row a k (by omega), fun _ _ => ⟨by omega, by omega⟩, fun _ _ => nb_row_pos b, fun _ _ => nb_row b k (by omega), fun _ _ => h0⟩
    · have h0 := has _ List.mem_cons_self
      have heq : a / 2 ^ k % 2 = b / 2 ^ k % 2 := Int.ofNat_inj.1 (by simpa only [Bool.not_eq_false', beq_iff_eq] using h0)
      have he2 : a / 2 ^ k = b / 2 ^ k := by rw [div_succ a k, div_succ b k, he, heq]
      have hw := wrap_pred k (by omega)
      refine ok_mono ?_ (rless_loop a b ha hb k (by omega) he2)
      simp only [stL, hw]
theorem rless_ok (a b : Nat) (ha : a < top) (hb : b < top) (w : World) : Calls Try.prog 17 [el a, el b].toArray w (fun E w' => ∃ v, E = .returned v ∧ Res.ok w w' (.v (.bool (decide (a < b)))) v ∧ Below w.heap.size w w') := by
  refine con_end (calls_of_ok (B := bodyOf Try.f17) (n := 34) Try.func17 (by kernel_rfl) rfl rfl (F := F0 w) (fun _ _ h => h) ?_)
  refine xgo_trim hm (F0.mono w) finB 50 _ _ _ _ _ _ (lessStart a b) (paidCons (fun _ => ⟨?_, ?_⟩) paidNil)
  · simp only [hold_cons, hold_nil, and_true, elN_eq ha, elN_eq hb]
    exact ⟨fun _ _ => trivial, fun _ _ => trivial⟩
  · refine ok_mono (st := stL a b 255) ?_ (Ok.loop 258 (by kernel_rfl) (rless_loop a b ha hb 256 (Nat.le_refl _) ?_))
    · simp only [stL, elN_eq ha, elN_eq hb]
    · rw [pow256, Nat.div_eq_of_lt ha, Nat.div_eq_of_lt hb]
end Go.Proofs.Ytcipmpamhffclaa
