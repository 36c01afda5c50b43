/- The document's difference of two numbers. -/
import Derived.Test.YtcipmpamhffclaaB20
namespace Go.Pl
open Go.Sx
theorem mapv_snoc (l : List Nat) (b : Nat) : mapv (bl l) ++ [SV.v (.int .i64 (b : Int))] = mapv (bl (l ++ [b])) := by simp [mapv, bl]
theorem vb_snoc (l : List Nat) (b : Nat) : vb (l ++ [b]) = vb l + 2 ^ l.length * b := by
  induction l with
  | nil => simp [vb]
  | cons x r ih =>
    simp only [List.cons_append, vb, ih, List.length_cons, Nat.pow_succ']
    rw [Nat.mul_add, Nat.mul_assoc]
    omega
theorem mod_succ (a k : Nat) : a % 2 ^ (k + 1) = a % 2 ^ k + 2 ^ k * (a / 2 ^ k % 2) := by
  rw [Nat.pow_succ, Nat.mod_mul]
/-- One digit of a difference. -/
theorem sub_step (a b i c x y d c' vl : Nat) (h : a % 2 ^ i + 2 ^ i * c = vl + b % 2 ^ i) (hx : a / 2 ^ i % 2 = x) (hy : b / 2 ^ i % 2 = y) (hd : x + 2 * c' = d + y + c) :
    a % 2 ^ (i + 1) + 2 ^ (i + 1) * c' = vl + 2 ^ i * d + b % 2 ^ (i + 1) := by
  rw [mod_succ, mod_succ, hx, hy, Nat.pow_succ, Nat.mul_assoc]
  have h1 : 2 ^ i * (x + 2 * c') = 2 ^ i * (d + y + c) := by rw [hd]
  simp only [Nat.mul_add] at h1
  omega
end Go.Pl
namespace Go.Proofs.Ytcipmpamhffclaa
open Go.Sx Go.Pl Go.RowKit
theorem subStart (a b : Nat) : ((xgo Try.prog X (bodyOf Try.f15) 44 CH [] 50 [] (Tree.nil) [.at []] ⟨argsTm 0 [el a, el b], []⟩ [] []).map (trims [10, 9, 8, 7, 6, 5, 4, 3, 2])) =
  some [Leaf2.mk [] [fun _ => el a = el (elN a),
    fun _ => el b = el (elN b)] [It.at [(0 : Nat), (1 : Nat), (0 : Nat), (1 : Nat), (1 : Nat), (1 : Nat), (1 : Nat), (1 : Nat)], It.blk (0 : Nat), It.at [(1 : Nat), (1 : Nat), (1 : Nat), (1 : Nat), (1 : Nat), (1 : Nat)]] (St.mk [((10 : Nat), SV.v (Value.int IntKind.i64 (0 : Int))), ((9 : Nat), SV.v (Value.int IntKind.i64 (0 : Int))), ((8 : Nat), SV.o (5 : Nat)), ((7 : Nat), SV.o (4 : Nat)), ((6 : Nat), SV.o (3 : Nat)), ((5 : Nat), SV.v (Value.bool false)), ((4 : Nat), SV.p (2 : Nat) (0 : Nat)), ((3 : Nat), SV.p (1 : Nat) (0 : Nat)), ((2 : Nat), SV.p (0 : Nat) (0 : Nat))] [HO.cells (ec a) (24 : Nat), HO.cells (ec b) (24 : Nat), HO.cells [SV.v (Value.int IntKind.u64 (0 : Int)), SV.v (Value.int IntKind.u64 (0 : Int)), SV.v (Value.int IntKind.u64 (0 : Int)), SV.v (Value.int IntKind.u64 (0 : Int))] (24 : Nat), HO.row (3 : Nat) (1 : Nat) (256 : Nat) (mapv (hvs (bl (nb (elN a) (256 : Nat))))), HO.row (3 : Nat) (1 : Nat) (256 : Nat) (mapv (hvs (bl (nb (elN b) (256 : Nat))))), HO.row (3 : Nat) (1 : Nat) (0 : Nat) []])]
  := by kernel_rfl

theorem subRound (a b n M x y : Nat) (i c : Int) (l : List Nat) (kt : List It) : ((xgo Try.prog X (bodyOf Try.f15) 44 CH [] 30 [.t, .lo 3 (.v (.int .i64 (x : Int))), .lo 4 (.v (.int .i64 (y : Int)))] ((.br [] .nil [] .nil)) (.at qS :: .rnd qS (M + 1) :: kt) (stS a b i c n l) [] []).map (trims [10, 9, 8, 7, 6, 5, 4, 3, 2])) =
  some [Leaf2.mk [decide (IntKind.wrap IntKind.i64 (IntKind.wrap IntKind.i64 ((↑x : Int) - (↑y : Int)) - c) < (0 : Int)) = true] [fun _ => decide (i < (256 : Int)) = true,
    fun _ => (0 : Int) ≤ i ∧ i < (256 : Int),
    fun _ => (0 : Nat) < List.length (mapv (hvs (bl (nb a (256 : Nat))))),
    fun _ => (mapv (hvs (bl (nb a (256 : Nat)))))[Int.toNat i * (1 : Nat)]? = some (SV.v (Value.int IntKind.i64 (↑x : Int))),
    fun _ => (0 : Int) ≤ i ∧ i < (256 : Int),
    fun _ => (0 : Nat) < List.length (mapv (hvs (bl (nb b (256 : Nat))))),
    fun _ => (mapv (hvs (bl (nb b (256 : Nat)))))[Int.toNat i * (1 : Nat)]? = some (SV.v (Value.int IntKind.i64 (↑y : Int))),
    fun _ => decide (IntKind.wrap IntKind.i64 (IntKind.wrap IntKind.i64 ((↑x : Int) - (↑y : Int)) - c) < (0 : Int)) = true,
    fun _ => (n + (1 : Nat)) * (8 : Nat) ≤ (140737488355328 : Nat) ∧ n + (1 : Nat) ≤ (140737488355328 : Nat)] (It.rnd [(0 : Nat), (0 : Nat), (1 : Nat), (0 : Nat), (1 : Nat), (1 : Nat), (1 : Nat), (1 : Nat), (1 : Nat)] (M + (1 : Nat)) :: kt) (St.mk [((10 : Nat), SV.v (Value.int IntKind.i64 (IntKind.wrap IntKind.i64 (i + (1 : Int))))), ((9 : Nat), SV.v (Value.int IntKind.i64 (1 : Int))), ((8 : Nat), SV.o (7 : Nat)), ((7 : Nat), SV.o (4 : Nat)), ((6 : Nat), SV.o (3 : Nat)), ((5 : Nat), SV.v (Value.bool false)), ((4 : Nat), SV.p (2 : Nat) (0 : Nat)), ((3 : Nat), SV.p (1 : Nat) (0 : Nat)), ((2 : Nat), SV.p (0 : Nat) (0 : Nat))] [HO.cells (ec a) (24 : Nat), HO.cells (ec b) (24 : Nat), HO.cells (ec (0 : Nat)) (24 : Nat), HO.row (3 : Nat) (1 : Nat) (256 : Nat) (mapv (hvs (bl (nb a (256 : Nat))))), HO.row (3 : Nat) (1 : Nat) (256 : Nat) (mapv (hvs (bl (nb b (256 : Nat))))), HO.gone, HO.row (3 : Nat) (1 : Nat) (1 : Nat) [SV.v (Value.int IntKind.i64 (IntKind.wrap IntKind.i64 (IntKind.wrap IntKind.i64 (IntKind.wrap IntKind.i64 ((↑x : Int) - (↑y : Int)) - c) + (2 : Int))))], HO.row (3 : Nat) (1 : Nat) (n + (1 : Nat)) (mapv (bl l) ++ [SV.v (Value.int IntKind.i64 (IntKind.wrap IntKind.i64 (IntKind.wrap IntKind.i64 (IntKind.wrap IntKind.i64 ((↑x : Int) - (↑y : Int)) - c) + (2 : Int))))])]),
  Leaf2.mk [decide (IntKind.wrap IntKind.i64 (IntKind.wrap IntKind.i64 ((↑x : Int) - (↑y : Int)) - c) < (0 : Int)) = false] [fun _ => decide (i < (256 : Int)) = true,
    fun _ => (0 : Int) ≤ i ∧ i < (256 : Int),
    fun _ => (0 : Nat) < List.length (mapv (hvs (bl (nb a (256 : Nat))))),
    fun _ => (mapv (hvs (bl (nb a (256 : Nat)))))[Int.toNat i * (1 : Nat)]? = some (SV.v (Value.int IntKind.i64 (↑x : Int))),
    fun _ => (0 : Int) ≤ i ∧ i < (256 : Int),
    fun _ => (0 : Nat) < List.length (mapv (hvs (bl (nb b (256 : Nat))))),
    fun _ => (mapv (hvs (bl (nb b (256 : Nat)))))[Int.toNat i * (1 : Nat)]? = some (SV.v (Value.int IntKind.i64 (↑y : Int))),
    fun _ => decide (IntKind.wrap IntKind.i64 (IntKind.wrap IntKind.i64 ((↑x : Int) - (↑y : Int)) - c) < (0 : Int)) = false,
    fun _ => (n + (1 : Nat)) * (8 : Nat) ≤ (140737488355328 : Nat) ∧ n + (1 : Nat) ≤ (140737488355328 : Nat)] (It.rnd [(0 : Nat), (0 : Nat), (1 : Nat), (0 : Nat), (1 : Nat), (1 : Nat), (1 : Nat), (1 : Nat), (1 : Nat)] (M + (1 : Nat)) :: kt) (St.mk [((10 : Nat), SV.v (Value.int IntKind.i64 (IntKind.wrap IntKind.i64 (i + (1 : Int))))), ((9 : Nat), SV.v (Value.int IntKind.i64 (0 : Int))), ((8 : Nat), SV.o (7 : Nat)), ((7 : Nat), SV.o (4 : Nat)), ((6 : Nat), SV.o (3 : Nat)), ((5 : Nat), SV.v (Value.bool false)), ((4 : Nat), SV.p (2 : Nat) (0 : Nat)), ((3 : Nat), SV.p (1 : Nat) (0 : Nat)), ((2 : Nat), SV.p (0 : Nat) (0 : Nat))] [HO.cells (ec a) (24 : Nat), HO.cells (ec b) (24 : Nat), HO.cells (ec (0 : Nat)) (24 : Nat), HO.row (3 : Nat) (1 : Nat) (256 : Nat) (mapv (hvs (bl (nb a (256 : Nat))))), HO.row (3 : Nat) (1 : Nat) (256 : Nat) (mapv (hvs (bl (nb b (256 : Nat))))), HO.gone, HO.row (3 : Nat) (1 : Nat) (1 : Nat) [SV.v (Value.int IntKind.i64 (IntKind.wrap IntKind.i64 (IntKind.wrap IntKind.i64 ((↑x : Int) - (↑y : Int)) - c)))], HO.row (3 : Nat) (1 : Nat) (n + (1 : Nat)) (mapv (bl l) ++ [SV.v (Value.int IntKind.i64 (IntKind.wrap IntKind.i64 (IntKind.wrap IntKind.i64 ((↑x : Int) - (↑y : Int)) - c)))])])]
  := by kernel_rfl

theorem subEnd (a b n : Nat) (i c : Int) (l : List Nat) : (((xgo Try.prog X (bodyOf Try.f15) 44 CH [] 30 [.f] (.nil) [.at qS, .rnd qS 1, .blk 0, .at [1,1,1,1,1,1]] (stS a b i c n l) [] []).bind (ends Try.prog Try.f15.results.toList)).bind plainE) =
  some [EndP.mk [] [fun _ => decide (i < (256 : Int)) = false,
    fun _ => mapv (bl l) = mapv (unv (mapv (bl l))),
    fun _ => (0 : Nat) < n ∧ unv (mapv (bl l)) = bl (unbl (unv (mapv (bl l)))) ∧ List.length (unbl (unv (mapv (bl l)))) = n ∧ ∀ (b : Nat), b ∈ unbl (unv (mapv (bl l))) → b ≤ (1 : Nat),
    fun _ => (0 : Nat) + (4 : Nat) ≤ (4 : Nat)] (Res.v (Value.tuple (Array.mk [el (hide (vb (List.take (256 : Nat) (unbl (unv (mapv (bl l))))))), Value.bool (c == (1 : Int))])))]
  := by kernel_rfl

theorem renL_mapv' (π : List Nat) (l : List Value) : renL π (mapv l) = mapv l := renL_mapv π l
theorem ren_row (π : List Nat) (T : TypeId) (sz n : Nat) (l : List Value) : some (HO.row T sz n (mapv l)) = some (renH π (.row T sz n (mapv l))) := by
  simp only [renH, renL_mapv']
theorem sub_next {w : World} {fin : Exit → Act → World → Prop} (a b : Nat) (i c n : Nat) (l : List Nat) (M : Nat) (kt : List It) (tm : List (Nat × SV)) (hp : List HO)
    (h1 : RenT [0, 1, 2, 3, 4, 7] tm (stS a b i c n l).tm) (h2 : RenH [0, 1, 2, 3, 4, 7] hp (stS a b i c n l).heap [0, 1, 2, 3, 4, 7])
    (next : Ok Try.prog (bodyOf Try.f15) 44 (F0 w) w fin (.rnd qS (M + 1) :: kt) (stS a b i c n l)) : Ok Try.prog (bodyOf Try.f15) 44 (F0 w) w fin (.rnd qS (M + 1) :: kt) ⟨tm, hp⟩ := by
  refine Ok.weaken (F0.mono w) [0, 1, 2, 3, 4, 7] _ h1 h2 rfl ⟨?_, ?_⟩ next
  · simp [stS, wsAllT, ws]
  · simp [stS, wsAllH, HO.ws, ec, wsL, ws]
    exact ⟨wsL_mapv _ _, wsL_mapv _ _, wsL_mapv _ _⟩
theorem rsub_loop {w : World} (a b : Nat) (ha : a < top) (hb : b < top) : ∀ (k i c : Nat) (l : List Nat), i + k = 256 → c ≤ 1 → l.length = i → (∀ b ∈ l, b ≤ 1) → a % 2 ^ i + 2 ^ i * c = vb l + b % 2 ^ i →
    Ok Try.prog (bodyOf Try.f15) 44 (F0 w) w (bodyPost Try.prog Try.f15 fun E w' => ∃ v r, E = .returned v ∧ r = Res.v (.tuple #[el (a + top - b), .bool (decide (a < b))]) ∧ r.ok w w' v ∧ Below w.heap.size w w') (.rnd qS (k + 2) :: [.blk 0, .at [1,1,1,1,1,1]]) (stS a b i c i l)
  | 0, i, c, l, hi, hc, hl, hb1, hv => by
    have hi : i = 256 := by omega
    subst hi
    rw [pow256, Nat.mod_eq_of_lt ha, Nat.mod_eq_of_lt hb] at hv
    have hlt := vb_lt l hb1
    rw [hl, pow256] at hlt
    have htk : l.take 256 = l := by rw [← hl, List.take_length]
    refine Ok.rnd (ok_plain hm (F0.mono w) (fun _ h => h) 30 _ _ _ _ (subEnd a b 256 _ c l) ⟨fun _ => ⟨?_, ?_⟩, trivial⟩)
    · simp only [hold_cons, hold_nil, and_true, unv_mapv', unbl_bl]
      exact ⟨fun _ _ => decide_eq_false (by omega), fun _ _ => trivial, fun _ _ => ⟨by omega, trivial, hl, hb1⟩, fun _ _ => by omega⟩
    · rw [unv_mapv', unbl_bl, htk, hide_eq]
      have hc2 : c = 0 ∨ c = 1 := by omega
      have h3 : el (vb l) = el (a + top - b) ∧ (((c : Nat) : Int) == (1 : Int)) = decide (a < b) := by
        rcases hc2 with h | h
        · subst h
          rw [Nat.mul_zero, Nat.add_zero] at hv
          constructor
          · rw [show a + top - b = vb l + top * 1 by omega, el_add_top]
          · rw [decide_eq_false (by omega)]; rfl
        · subst h
          rw [Nat.mul_one] at hv
          constructor
          · rw [show a + top - b = vb l by omega]
          · rw [decide_eq_true (by omega)]; rfl
      rw [h3.1, h3.2]
  | k + 1, i, c, l, hi, hc, hl, hb1, hv => by
    have hx2 : a / 2 ^ i % 2 < 2 := Nat.mod_lt _ (by omega)
    have hy2 : b / 2 ^ i % 2 < 2 := Nat.mod_lt _ (by omega)
    generalize hx : a / 2 ^ i % 2 = x at *
    generalize hy : b / 2 ^ i % 2 = y at *
    have rx := nb_row a i (by omega)
    have ry := nb_row b i (by omega)
    rw [hx] at rx
    rw [hy] at ry
    have ew1 : IntKind.wrap .i64 ((x : Int) - (y : Int)) = (x : Int) - (y : Int) := by simp [IntKind.wrap, IntKind.bits, IntKind.signed]; omega
    have ew2 : IntKind.wrap .i64 ((x : Int) - (y : Int) - (c : Int)) = (x : Int) - (y : Int) - (c : Int) := by simp [IntKind.wrap, IntKind.bits, IntKind.signed]; omega
    have ew3 : IntKind.wrap .i64 ((i : Int) + 1) = ((i + 1 : Nat) : Int) := wrap_i64 (i + 1) (by omega)
    refine Ok.rnd (xgo_trim hm (F0.mono w) finB 30 _ _ _ _ _ _ (subRound a b i (k + 1) x y i c l _) (paidCons (fun has => ⟨?_, ?_⟩) (paidCons (fun has => ⟨?_, ?_⟩) paidNil)))
    · have h0 := has _ List.mem_cons_self
      simp only [hold_cons, hold_nil, and_true]
      exact ⟨fun _ _ => decide_eq_true (by omega), fun _ _ => ⟨by omega, by omega⟩, fun _ _ => nb_row_pos a, fun _ _ => rx, fun _ _ => ⟨by omega, by omega⟩, fun _ _ => nb_row_pos b, fun _ _ => ry, fun _ _ => h0, fun _ _ => ⟨by omega, by omega⟩⟩
    · have h0 := has _ List.mem_cons_self
      simp only [ew1, ew2] at h0 ⊢
      have hneg : (x : Int) - y - c < 0 := of_decide_eq_true h0
      have ew4 : IntKind.wrap .i64 ((x : Int) - (y : Int) - (c : Int) + 2) = ((x + 2 - y - c : Nat) : Int) := by simp [IntKind.wrap, IntKind.bits, IntKind.signed]; omega
      refine sub_next a b (i + 1) 1 (i + 1) (l ++ [x + 2 - y - c]) _ _ _ _ ⟨congrArg (fun z => some (SV.v (Value.int IntKind.i64 z))) ew3, rfl, rfl, rfl, rfl, rfl, rfl, rfl, rfl, trivial⟩ ⟨rfl, rfl, rfl, ren_row _ _ _ _ _, ren_row _ _ _ _ _, ?_, trivial⟩
        (rsub_loop a b ha hb k (i + 1) 1 _ (by omega) (by omega) (by simp [hl]) ?_ ?_)
      · show some (HO.row 3 1 (i + 1) (mapv (bl l) ++ [SV.v (Value.int IntKind.i64 (IntKind.wrap .i64 ((x : Int) - (y : Int) - (c : Int) + 2)))])) = some (HO.row 3 1 (i + 1) (renL [0, 1, 2, 3, 4, 7] (mapv (bl (l ++ [x + 2 - y - c])))))
        rw [ew4, mapv_snoc, renL_mapv']
      · intro q hq
        rcases List.mem_append.1 hq with hq | hq
        · exact hb1 q hq
        · rw [List.mem_singleton] at hq; omega
      · rw [vb_snoc, hl]
        exact sub_step a b i c x y _ 1 _ hv hx hy (by omega)
    · have h0 := has _ List.mem_cons_self
      simp only [hold_cons, hold_nil, and_true]
      exact ⟨fun _ _ => decide_eq_true (by omega), fun _ _ => ⟨by omega, by omega⟩, fun _ _ => nb_row_pos a, fun _ _ => rx, fun _ _ => ⟨by omega, by omega⟩, fun _ _ => nb_row_pos b, fun _ _ => ry, fun _ _ => h0, fun _ _ => ⟨by omega, by omega⟩⟩
    · have h0 := has _ List.mem_cons_self
      simp only [ew1, ew2] at h0 ⊢
      have hpos : ¬ (x : Int) - y - c < 0 := of_decide_eq_false h0
      have ew4 : ((x : Int) - (y : Int) - (c : Int)) = ((x - y - c : Nat) : Int) := by omega
      refine sub_next a b (i + 1) 0 (i + 1) (l ++ [x - y - c]) _ _ _ _ ⟨congrArg (fun z => some (SV.v (Value.int IntKind.i64 z))) ew3, rfl, rfl, rfl, rfl, rfl, rfl, rfl, rfl, trivial⟩ ⟨rfl, rfl, rfl, ren_row _ _ _ _ _, ren_row _ _ _ _ _, ?_, trivial⟩
        (rsub_loop a b ha hb k (i + 1) 0 _ (by omega) (by omega) (by simp [hl]) ?_ ?_)
      · show some (HO.row 3 1 (i + 1) (mapv (bl l) ++ [SV.v (Value.int IntKind.i64 ((x : Int) - (y : Int) - (c : Int)))])) = some (HO.row 3 1 (i + 1) (renL [0, 1, 2, 3, 4, 7] (mapv (bl (l ++ [x - y - c])))))
        rw [ew4, mapv_snoc, renL_mapv']
      · intro q hq
        rcases List.mem_append.1 hq with hq | hq
        · exact hb1 q hq
        · rw [List.mem_singleton] at hq; omega
      · rw [vb_snoc, hl]
        exact sub_step a b i c x y _ 0 _ hv hx hy (by omega)
theorem rsub_ok (a b : Nat) (ha : a < top) (hb : b < top) (w : World) : Calls Try.prog 15 [el a, el b].toArray w (fun E w' => ∃ v, E = .returned v ∧ Res.ok w w' (.v (.tuple #[el (a + top - b), .bool (decide (a < b))])) v ∧ Below w.heap.size w w') := by
  refine con_end (calls_of_ok (B := bodyOf Try.f15) (n := 44) Try.func15 (by kernel_rfl) rfl rfl (F := F0 w) (fun _ _ h => h) ?_)
  refine xgo_trim hm (F0.mono w) finB 50 _ _ _ _ _ _ (subStart a b) (paidCons (fun _ => ⟨?_, ?_⟩) paidNil)
  · simp only [hold_cons, hold_nil, and_true, elN_eq ha, elN_eq hb]
    exact ⟨fun _ _ => trivial, fun _ _ => trivial⟩
  · refine ok_mono (st := stS a b 0 0 0 []) ?_ (Ok.loop 258 (by kernel_rfl) (rsub_loop a b ha hb 256 0 0 [] (by omega) (by omega) rfl (fun _ h => by cases h) (by simp [vb, Nat.mod_one])))
    simp only [stS, elN_eq ha, elN_eq hb, ec_zero]
    rfl
end Go.Proofs.Ytcipmpamhffclaa
