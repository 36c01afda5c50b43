/- The document's sum of two numbers. -/
import Derived.Test.YtcipmpamhffclaaB17
namespace Go.Pl
open Go.Sx
theorem mapv_get (l : List Nat) (i : Nat) (h : i < l.length) : (mapv (bl l))[i]? = some (SV.v (.int .i64 ((hide (l.getD i 0) : Nat) : Int))) := by
  rw [hide_eq]
  simp [mapv, bl, List.getD, List.getElem?_eq_getElem h]
theorem mapv_length (l : List Nat) : (mapv (bl l)).length = l.length := by simp [mapv, bl]
theorem pow256 : (2 : Nat) ^ 256 = top := by decide +kernel
theorem adb_word (a b : Nat) (ha : a < top) (hb : b < top) : vb ((adb (nb a 256) (nb b 256) 0).take 256) = (a + b) % top ∧ (adb (nb a 256) (nb b 256) 0).getD 256 0 = (a + b) / top := by
  have hl : (nb a 256).length = (nb b 256).length := by rw [nb_length, nb_length]
  have h0 : vb (adb (nb a 256) (nb b 256) 0) = a + b := by
    rw [adb_vb _ _ _ hl, vb_nb, vb_nb, pow256, Nat.mod_eq_of_lt ha, Nat.mod_eq_of_lt hb, Nat.add_zero]
  have hb' := adb_bit (nb a 256) (nb b 256) 0 hl (by omega) (nb_bit _ _) (nb_bit _ _)
  have h1 := vb_take _ hb' 256
  rw [h0, pow256] at h1
  have h2 := vb_split _ 256 (by rw [adb_length _ _ _ hl, nb_length]) hb'
  rw [h0, h1, pow256] at h2
  refine ⟨h1, ?_⟩
  have h3 := Nat.div_add_mod (a + b) top
  have h4 : top * (adb (nb a 256) (nb b 256) 0).getD 256 0 = top * ((a + b) / top) := by omega
  exact Nat.eq_of_mul_eq_mul_left (by simp only [top]; omega) h4
end Go.Pl
namespace Go.Proofs.Ytcipmpamhffclaa
open Go.Sx Go.Pl Go.RowKit
theorem run13 (a b : Nat) : (((xgo Try.prog X (bodyOf Try.f13) 18 CH [] 50 [.lo 5 (.v (.int .i64 ((hide ((adb (nb a 256) (nb b 256) 0).getD 256 0) : Nat) : Int)))] (.nil) [.at []] ⟨argsTm 0 [el a, el b], []⟩ [] []).bind (ends Try.prog Try.f13.results.toList)).bind plainE) =
  some [EndP.mk [] [fun _ => el a = el (elN a),
    fun _ => el b = el (elN b),
    fun _ => mapv (hvs (bl (nb (elN a) (256 : Nat)))) = mapv (unv (mapv (hvs (bl (nb (elN a) (256 : Nat)))))),
    fun _ => mapv (hvs (bl (nb (elN b) (256 : Nat)))) = mapv (unv (mapv (hvs (bl (nb (elN b) (256 : Nat)))))),
    fun _ => (256 : Nat) = (256 : Nat) ∧ (0 : Nat) < (256 : Nat) ∧ (256 : Nat) ≤ (900 : Nat) ∧ unv (mapv (hvs (bl (nb (elN a) (256 : Nat))))) = bl (unbl (unv (mapv (hvs (bl (nb (elN a) (256 : Nat))))))) ∧ unv (mapv (hvs (bl (nb (elN b) (256 : Nat))))) = bl (unbl (unv (mapv (hvs (bl (nb (elN b) (256 : Nat))))))) ∧ List.length (unbl (unv (mapv (hvs (bl (nb (elN a) (256 : Nat))))))) = (256 : Nat) ∧ List.length (unbl (unv (mapv (hvs (bl (nb (elN b) (256 : Nat))))))) = (256 : Nat) ∧ (∀ (b : Nat), b ∈ unbl (unv (List.map SV.v (hvs (bl (nb (elN a) (256 : Nat)))))) → b ≤ (1 : Nat)) ∧ ∀ (b_1 : Nat), b_1 ∈ unbl (unv (List.map SV.v (hvs (bl (nb (elN b) (256 : Nat)))))) → b_1 ≤ (1 : Nat),
    fun _ => (0 : Int) ≤ (256 : Int) ∧ (256 : Int) < (257 : Int),
    fun _ => mapv (hvs (bl (adb (unbl (unv (mapv (hvs (bl (nb (elN a) (256 : Nat))))))) (unbl (unv (mapv (hvs (bl (nb (elN b) (256 : Nat))))))) (0 : Nat)))) = mapv (unv (mapv (hvs (bl (adb (unbl (unv (mapv (hvs (bl (nb (elN a) (256 : Nat))))))) (unbl (unv (mapv (hvs (bl (nb (elN b) (256 : Nat))))))) (0 : Nat)))))),
    fun _ => (0 : Nat) < (257 : Nat) ∧ unv (mapv (hvs (bl (adb (unbl (unv (mapv (hvs (bl (nb (elN a) (256 : Nat))))))) (unbl (unv (mapv (hvs (bl (nb (elN b) (256 : Nat))))))) (0 : Nat))))) = bl (unbl (unv (mapv (hvs (bl (adb (unbl (unv (mapv (hvs (bl (nb (elN a) (256 : Nat))))))) (unbl (unv (mapv (hvs (bl (nb (elN b) (256 : Nat))))))) (0 : Nat))))))) ∧ List.length (unbl (unv (mapv (hvs (bl (adb (unbl (unv (mapv (hvs (bl (nb (elN a) (256 : Nat))))))) (unbl (unv (mapv (hvs (bl (nb (elN b) (256 : Nat))))))) (0 : Nat))))))) = (257 : Nat) ∧ ∀ (b_1 : Nat), b_1 ∈ unbl (unv (List.map SV.v (hvs (bl (adb (unbl (unv (List.map SV.v (hvs (bl (nb (elN a) (256 : Nat))))))) (unbl (unv (List.map SV.v (hvs (bl (nb (elN b) (256 : Nat))))))) (0 : Nat)))))) → b_1 ≤ (1 : Nat),
    fun _ => (0 : Nat) < List.length (mapv (hvs (bl (adb (unbl (unv (mapv (hvs (bl (nb (elN a) (256 : Nat))))))) (unbl (unv (mapv (hvs (bl (nb (elN b) (256 : Nat))))))) (0 : Nat))))),
    fun _ => (mapv (hvs (bl (adb (unbl (unv (mapv (hvs (bl (nb (elN a) (256 : Nat))))))) (unbl (unv (mapv (hvs (bl (nb (elN b) (256 : Nat))))))) (0 : Nat)))))[(256 : Nat)]? = some (SV.v (Value.int IntKind.i64 (↑(hide (List.getD (adb (nb a (256 : Nat)) (nb b (256 : Nat)) (0 : Nat)) (256 : Nat) (0 : Nat))) : Int))),
    fun _ => (0 : Nat) + (4 : Nat) ≤ (4 : Nat)] (Res.v (Value.tuple (Array.mk [el (hide (vb (List.take (256 : Nat) (unbl (unv (mapv (hvs (bl (adb (unbl (unv (mapv (hvs (bl (nb (elN a) (256 : Nat))))))) (unbl (unv (mapv (hvs (bl (nb (elN b) (256 : Nat))))))) (0 : Nat)))))))))), Value.bool ((↑(hide (List.getD (adb (nb a (256 : Nat)) (nb b (256 : Nat)) (0 : Nat)) (256 : Nat) (0 : Nat))) : Int) == (1 : Int))]))),
  EndP.mk [] [fun _ => el a = el (elN a),
    fun _ => el b = el (elN b),
    fun _ => mapv (hvs (bl (nb (elN a) (256 : Nat)))) = mapv (unv (mapv (hvs (bl (nb (elN a) (256 : Nat)))))),
    fun _ => mapv (hvs (bl (nb (elN b) (256 : Nat)))) = mapv (unv (mapv (hvs (bl (nb (elN b) (256 : Nat)))))),
    fun _ => (256 : Nat) = (256 : Nat) ∧ (0 : Nat) < (256 : Nat) ∧ (256 : Nat) ≤ (900 : Nat) ∧ unv (mapv (hvs (bl (nb (elN a) (256 : Nat))))) = bl (unbl (unv (mapv (hvs (bl (nb (elN a) (256 : Nat))))))) ∧ unv (mapv (hvs (bl (nb (elN b) (256 : Nat))))) = bl (unbl (unv (mapv (hvs (bl (nb (elN b) (256 : Nat))))))) ∧ List.length (unbl (unv (mapv (hvs (bl (nb (elN a) (256 : Nat))))))) = (256 : Nat) ∧ List.length (unbl (unv (mapv (hvs (bl (nb (elN b) (256 : Nat))))))) = (256 : Nat) ∧ (∀ (b : Nat), b ∈ unbl (unv (List.map SV.v (hvs (bl (nb (elN a) (256 : Nat)))))) → b ≤ (1 : Nat)) ∧ ∀ (b_1 : Nat), b_1 ∈ unbl (unv (List.map SV.v (hvs (bl (nb (elN b) (256 : Nat)))))) → b_1 ≤ (1 : Nat),
    fun _ => (0 : Int) ≤ (256 : Int) ∧ (256 : Int) < (257 : Int),
    fun _ => mapv (hvs (bl (adb (unbl (unv (mapv (hvs (bl (nb (elN a) (256 : Nat))))))) (unbl (unv (mapv (hvs (bl (nb (elN b) (256 : Nat))))))) (0 : Nat)))) = mapv (unv (mapv (hvs (bl (adb (unbl (unv (mapv (hvs (bl (nb (elN a) (256 : Nat))))))) (unbl (unv (mapv (hvs (bl (nb (elN b) (256 : Nat))))))) (0 : Nat)))))),
    fun _ => (0 : Nat) < (257 : Nat) ∧ unv (mapv (hvs (bl (adb (unbl (unv (mapv (hvs (bl (nb (elN a) (256 : Nat))))))) (unbl (unv (mapv (hvs (bl (nb (elN b) (256 : Nat))))))) (0 : Nat))))) = bl (unbl (unv (mapv (hvs (bl (adb (unbl (unv (mapv (hvs (bl (nb (elN a) (256 : Nat))))))) (unbl (unv (mapv (hvs (bl (nb (elN b) (256 : Nat))))))) (0 : Nat))))))) ∧ List.length (unbl (unv (mapv (hvs (bl (adb (unbl (unv (mapv (hvs (bl (nb (elN a) (256 : Nat))))))) (unbl (unv (mapv (hvs (bl (nb (elN b) (256 : Nat))))))) (0 : Nat))))))) = (257 : Nat) ∧ ∀ (b_1 : Nat), b_1 ∈ unbl (unv (List.map SV.v (hvs (bl (adb (unbl (unv (List.map SV.v (hvs (bl (nb (elN a) (256 : Nat))))))) (unbl (unv (List.map SV.v (hvs (bl (nb (elN b) (256 : Nat))))))) (0 : Nat)))))) → b_1 ≤ (1 : Nat),
    fun _ => (0 : Nat) + (4 : Nat) ≤ (4 : Nat),
    fun _ => (0 : Nat) < List.length (mapv (hvs (bl (adb (unbl (unv (mapv (hvs (bl (nb (elN a) (256 : Nat))))))) (unbl (unv (mapv (hvs (bl (nb (elN b) (256 : Nat))))))) (0 : Nat))))),
    fun _ => (mapv (hvs (bl (adb (unbl (unv (mapv (hvs (bl (nb (elN a) (256 : Nat))))))) (unbl (unv (mapv (hvs (bl (nb (elN b) (256 : Nat))))))) (0 : Nat)))))[(256 : Nat)]? = some (SV.v (Value.int IntKind.i64 (↑(hide (List.getD (adb (nb a (256 : Nat)) (nb b (256 : Nat)) (0 : Nat)) (256 : Nat) (0 : Nat))) : Int)))] (Res.v (Value.tuple (Array.mk [el (hide (vb (List.take (256 : Nat) (unbl (unv (mapv (hvs (bl (adb (unbl (unv (mapv (hvs (bl (nb (elN a) (256 : Nat))))))) (unbl (unv (mapv (hvs (bl (nb (elN b) (256 : Nat))))))) (0 : Nat)))))))))), Value.bool ((↑(hide (List.getD (adb (nb a (256 : Nat)) (nb b (256 : Nat)) (0 : Nat)) (256 : Nat) (0 : Nat))) : Int) == (1 : Int))]))),
  EndP.mk [] [fun _ => el a = el (elN a),
    fun _ => el b = el (elN b),
    fun _ => mapv (hvs (bl (nb (elN a) (256 : Nat)))) = mapv (unv (mapv (hvs (bl (nb (elN a) (256 : Nat)))))),
    fun _ => mapv (hvs (bl (nb (elN b) (256 : Nat)))) = mapv (unv (mapv (hvs (bl (nb (elN b) (256 : Nat)))))),
    fun _ => (256 : Nat) = (256 : Nat) ∧ (0 : Nat) < (256 : Nat) ∧ (256 : Nat) ≤ (900 : Nat) ∧ unv (mapv (hvs (bl (nb (elN a) (256 : Nat))))) = bl (unbl (unv (mapv (hvs (bl (nb (elN a) (256 : Nat))))))) ∧ unv (mapv (hvs (bl (nb (elN b) (256 : Nat))))) = bl (unbl (unv (mapv (hvs (bl (nb (elN b) (256 : Nat))))))) ∧ List.length (unbl (unv (mapv (hvs (bl (nb (elN a) (256 : Nat))))))) = (256 : Nat) ∧ List.length (unbl (unv (mapv (hvs (bl (nb (elN b) (256 : Nat))))))) = (256 : Nat) ∧ (∀ (b : Nat), b ∈ unbl (unv (List.map SV.v (hvs (bl (nb (elN a) (256 : Nat)))))) → b ≤ (1 : Nat)) ∧ ∀ (b_1 : Nat), b_1 ∈ unbl (unv (List.map SV.v (hvs (bl (nb (elN b) (256 : Nat)))))) → b_1 ≤ (1 : Nat),
    fun _ => (0 : Int) ≤ (256 : Int) ∧ (256 : Int) < (257 : Int),
    fun _ => (0 : Nat) < List.length (mapv (hvs (bl (adb (unbl (unv (mapv (hvs (bl (nb (elN a) (256 : Nat))))))) (unbl (unv (mapv (hvs (bl (nb (elN b) (256 : Nat))))))) (0 : Nat))))),
    fun _ => (mapv (hvs (bl (adb (unbl (unv (mapv (hvs (bl (nb (elN a) (256 : Nat))))))) (unbl (unv (mapv (hvs (bl (nb (elN b) (256 : Nat))))))) (0 : Nat)))))[(256 : Nat)]? = some (SV.v (Value.int IntKind.i64 (↑(hide (List.getD (adb (nb a (256 : Nat)) (nb b (256 : Nat)) (0 : Nat)) (256 : Nat) (0 : Nat))) : Int))),
    fun _ => mapv (hvs (bl (adb (unbl (unv (mapv (hvs (bl (nb (elN a) (256 : Nat))))))) (unbl (unv (mapv (hvs (bl (nb (elN b) (256 : Nat))))))) (0 : Nat)))) = mapv (unv (mapv (hvs (bl (adb (unbl (unv (mapv (hvs (bl (nb (elN a) (256 : Nat))))))) (unbl (unv (mapv (hvs (bl (nb (elN b) (256 : Nat))))))) (0 : Nat)))))),
    fun _ => (0 : Nat) < (257 : Nat) ∧ unv (mapv (hvs (bl (adb (unbl (unv (mapv (hvs (bl (nb (elN a) (256 : Nat))))))) (unbl (unv (mapv (hvs (bl (nb (elN b) (256 : Nat))))))) (0 : Nat))))) = bl (unbl (unv (mapv (hvs (bl (adb (unbl (unv (mapv (hvs (bl (nb (elN a) (256 : Nat))))))) (unbl (unv (mapv (hvs (bl (nb (elN b) (256 : Nat))))))) (0 : Nat))))))) ∧ List.length (unbl (unv (mapv (hvs (bl (adb (unbl (unv (mapv (hvs (bl (nb (elN a) (256 : Nat))))))) (unbl (unv (mapv (hvs (bl (nb (elN b) (256 : Nat))))))) (0 : Nat))))))) = (257 : Nat) ∧ ∀ (b_1 : Nat), b_1 ∈ unbl (unv (List.map SV.v (hvs (bl (adb (unbl (unv (List.map SV.v (hvs (bl (nb (elN a) (256 : Nat))))))) (unbl (unv (List.map SV.v (hvs (bl (nb (elN b) (256 : Nat))))))) (0 : Nat)))))) → b_1 ≤ (1 : Nat),
    fun _ => (0 : Nat) + (4 : Nat) ≤ (4 : Nat)] (Res.v (Value.tuple (Array.mk [el (hide (vb (List.take (256 : Nat) (unbl (unv (mapv (hvs (bl (adb (unbl (unv (mapv (hvs (bl (nb (elN a) (256 : Nat))))))) (unbl (unv (mapv (hvs (bl (nb (elN b) (256 : Nat))))))) (0 : Nat)))))))))), Value.bool ((↑(hide (List.getD (adb (nb a (256 : Nat)) (nb b (256 : Nat)) (0 : Nat)) (256 : Nat) (0 : Nat))) : Int) == (1 : Int))])))]
  := by kernel_rfl


theorem radd_ok (a b : Nat) (ha : a < top) (hb : b < top) (w : World) : Calls Try.prog 13 [el a, el b].toArray w (fun E w' => ∃ v, E = .returned v ∧ Res.ok w w' (.v (.tuple #[el (a + b), .bool (decide (top ≤ a + b))])) v ∧ Below w.heap.size w w') := by
  have hl : (nb a 256).length = (nb b 256).length := by rw [nb_length, nb_length]
  have hal : (adb (nb a 256) (nb b 256) 0).length = 257 := by rw [adb_length _ _ _ hl, nb_length]
  have hab := adb_bit (nb a 256) (nb b 256) 0 hl (by omega) (nb_bit _ _) (nb_bit _ _)
  obtain ⟨e1, e2⟩ := adb_word a b ha hb
  have hr : Res.v (Value.tuple (Array.mk [el (hide (vb (List.take (256 : Nat) (adb (nb a 256) (nb b 256) 0)))), Value.bool ((↑(hide (List.getD (adb (nb a 256) (nb b 256) 0) 256 0)) : Int) == (1 : Int))])) = Res.v (.tuple #[el (a + b), .bool (decide (top ≤ a + b))]) := by
    rw [hide_eq, hide_eq, e1, e2, el_mod]
    refine congrArg (fun x => Res.v (Value.tuple #[_, Value.bool x])) ?_
    rw [Bool.eq_iff_iff, decide_eq_true_iff]
    simp only [top] at *
    simp
    omega
  refine con_end (calls_plain hm Try.func13 (by kernel_rfl) rfl rfl 50 _ _ (run13 a b) ⟨fun _ => ⟨?_, ?_⟩, ⟨fun _ => ⟨?_, ?_⟩, ⟨fun _ => ⟨?_, ?_⟩, trivial⟩⟩⟩)
  all_goals simp only [hold_cons, hold_nil, and_true, elN_eq ha, elN_eq hb, unv_mapv', unv_mapv, hvs_eq, unbl_bl, mapv_length]
  all_goals first | exact hr | skip
  all_goals
    repeat' apply And.intro
    all_goals (intro _ _; first | exact True.intro | omega | exact mapv_get _ _ (by omega) | (repeat' apply And.intro) <;> (first | exact True.intro | omega | exact nb_length _ _ | exact nb_bit _ _ | assumption))
noncomputable def gRAdd2 : List RV → Option (Res × Prop)
  | [.v x, .v y] => match unEl x, unEl y with
    | some a, some b => some (.v (.tuple #[el (a + b), .bool (decide (top ≤ a + b))]), x = el a ∧ y = el b ∧ a < top ∧ b < top)
    | _, _ => none
  | _ => none
theorem gRAdd2_ok (rvs : List RV) (r : Res) (p : Prop) (vs : List Value) (w : World) (hg : gRAdd2 rvs = some (r, p)) (hp : p) (hv : RVs (wmem w) rvs vs) : Calls Try.prog 13 vs.toArray w (fun E w' => ∃ v, E = .returned v ∧ r.ok w w' v ∧ Below w.heap.size w w') := by
  unfold gRAdd2 at hg
  split at hg
  · split at hg
    · simp only [Option.some.injEq, Prod.mk.injEq] at hg
      obtain ⟨rfl, rfl⟩ := hg
      obtain ⟨h1, h2, h3, h4⟩ := hp
      rw [rvs2 hv, h1, h2]
      exact radd_ok _ _ h3 h4 w
    · cases hg
  · cases hg
end Go.Proofs.Ytcipmpamhffclaa

namespace Go.Proofs.Ytcipmpamhffclaa
open Go.Sx Go.Pl Go.RowKit
def qS : List Nat := [0,0,1,0,1,1,1,1,1]
noncomputable def stS (a b : Nat) (i c : Int) (n : Nat) (l : List Nat) : St :=
  ⟨[(10, .v (.int .i64 i)), (9, .v (.int .i64 c)), (8, .o 5), (7, .o 4), (6, .o 3), (5, .v (.bool false)), (4, .p 2 0), (3, .p 1 0), (2, .p 0 0)],
    [.cells (ec a) 24, .cells (ec b) 24, .cells (ec 0) 24, .row 3 1 256 (mapv (hvs (bl (nb a 256)))), .row 3 1 256 (mapv (hvs (bl (nb b 256)))), .row 3 1 n (mapv (bl l))]⟩
def qL : List Nat := [0,0,1,0,1,1,1]
noncomputable def stL (a b : Nat) (i : Int) : St :=
  ⟨[(7, .v (.int .i64 i)), (6, .o 3), (5, .o 2), (4, .v (.bool false)), (3, .p 1 0), (2, .p 0 0)],
    [.cells (ec a) 24, .cells (ec b) 24, .row 3 1 256 (mapv (hvs (bl (nb a 256)))), .row 3 1 256 (mapv (hvs (bl (nb b 256))))]⟩
end Go.Proofs.Ytcipmpamhffclaa

namespace Go.Pl
theorem div_succ (a k : Nat) : a / 2 ^ k = 2 * (a / 2 ^ (k + 1)) + a / 2 ^ k % 2 := by
  have : a / 2 ^ (k + 1) = a / 2 ^ k / 2 := by rw [Nat.pow_succ, Nat.div_div_eq_div_mul]
  rw [this]
  omega
/-- Where the first bit from above differs, the numbers compare as the bits do. -/
theorem less_bit (a b k : Nat) (h : a / 2 ^ (k + 1) = b / 2 ^ (k + 1)) (hne : a / 2 ^ k % 2 ≠ b / 2 ^ k % 2) : a / 2 ^ k % 2 < b / 2 ^ k % 2 ↔ a < b := by
  have ha := div_succ a k
  have hb := div_succ b k
  rw [h] at ha
  have hp : 0 < 2 ^ k := Nat.two_pow_pos k
  constructor
  · intro hlt
    have : a / 2 ^ k < b / 2 ^ k := by omega
    exact Nat.lt_of_not_le fun hle => by
      have := Nat.div_le_div_right (c := 2 ^ k) hle
      omega
  · intro hlt
    have := Nat.div_le_div_right (c := 2 ^ k) (Nat.le_of_lt hlt)
    omega
end Go.Pl
namespace Go.Proofs.Ytcipmpamhffclaa
open Go.Sx Go.Pl Go.RowKit
theorem lessStart (a b : Nat) : ((xgo Try.prog X (bodyOf Try.f17) 34 CH [] 50 [] (Tree.nil) [.at []] ⟨argsTm 0 [el a, el b], []⟩ [] []).map (trims [7, 6, 5, 4, 3, 2])) =
  some [Leaf2.mk [] [fun _ => el a = el (elN a),
    fun _ => el b = el (elN b)] [It.at [(0 : Nat), (1 : Nat), (0 : Nat), (1 : Nat), (1 : Nat), (1 : Nat)], It.blk (0 : Nat), It.at [(1 : Nat), (1 : Nat), (1 : Nat), (1 : Nat)]] (St.mk [((7 : Nat), SV.v (Value.int IntKind.i64 (255 : Int))), ((6 : Nat), SV.o (3 : Nat)), ((5 : Nat), SV.o (2 : Nat)), ((4 : Nat), SV.v (Value.bool false)), ((3 : Nat), SV.p (1 : Nat) (0 : Nat)), ((2 : Nat), SV.p (0 : Nat) (0 : Nat))] [HO.cells (ec a) (24 : Nat), HO.cells (ec b) (24 : Nat), HO.row (3 : Nat) (1 : Nat) (256 : Nat) (mapv (hvs (bl (nb (elN a) (256 : Nat))))), HO.row (3 : Nat) (1 : Nat) (256 : Nat) (mapv (hvs (bl (nb (elN b) (256 : Nat)))))])]
  := by kernel_rfl

theorem lessRound (a b M x y : Nat) (i : Int) (kt : List It) : ((xgo Try.prog X (bodyOf Try.f17) 34 CH [] 30 [.t, .lo 2 (.v (.int .i64 (x : Int))), .lo 3 (.v (.int .i64 (y : Int)))] ((.br [.lo 2 (.v (.int .i64 (x : Int))), .lo 3 (.v (.int .i64 (y : Int)))] .nil [] .nil)) (.at qL :: .rnd qL (M + 1) :: kt) (stL a b i) [] []).map (trims [7, 6, 5, 4, 3, 2])) =
  some [Leaf2.mk [(!(↑x : Int) == (↑y : Int)) = true] [fun _ => decide ((0 : Int) ≤ i) = true,
    fun _ => (0 : Int) ≤ i ∧ i < (256 : Int),
    fun _ => (0 : Nat) < List.length (mapv (hvs (bl (nb a (256 : Nat))))),
    fun _ => (mapv (hvs (bl (nb a (256 : Nat)))))[Int.toNat i * (1 : Nat)]? = some (SV.v (Value.int IntKind.i64 (↑x : Int))),
    fun _ => (0 : Int) ≤ i ∧ i < (256 : Int),
    fun _ => (0 : Nat) < List.length (mapv (hvs (bl (nb b (256 : Nat))))),
    fun _ => (mapv (hvs (bl (nb b (256 : Nat)))))[Int.toNat i * (1 : Nat)]? = some (SV.v (Value.int IntKind.i64 (↑y : Int))),
    fun _ => (!(↑x : Int) == (↑y : Int)) = true,
    fun _ => (0 : Int) ≤ i ∧ i < (256 : Int),
    fun _ => (0 : Nat) < List.length (mapv (hvs (bl (nb a (256 : Nat))))),
    fun _ => (mapv (hvs (bl (nb a (256 : Nat)))))[Int.toNat i * (1 : Nat)]? = some (SV.v (Value.int IntKind.i64 (↑x : Int))),
    fun _ => (0 : Int) ≤ i ∧ i < (256 : Int),
    fun _ => (0 : Nat) < List.length (mapv (hvs (bl (nb b (256 : Nat))))),
    fun _ => (mapv (hvs (bl (nb b (256 : Nat)))))[Int.toNat i * (1 : Nat)]? = some (SV.v (Value.int IntKind.i64 (↑y : Int)))] (It.ret :: It.blk (1 : Nat) :: It.at [(1 : Nat), (1 : Nat), (0 : Nat), (0 : Nat), (1 : Nat), (0 : Nat), (1 : Nat), (1 : Nat), (1 : Nat)] :: It.rnd [(0 : Nat), (0 : Nat), (1 : Nat), (0 : Nat), (1 : Nat), (1 : Nat), (1 : Nat)] (M + (1 : Nat)) :: kt) (St.mk [((7 : Nat), SV.v (Value.int IntKind.i64 i)), ((6 : Nat), SV.o (3 : Nat)), ((5 : Nat), SV.o (2 : Nat)), ((4 : Nat), SV.v (Value.bool (decide ((↑x : Int) < (↑y : Int))))), ((3 : Nat), SV.p (1 : Nat) (0 : Nat)), ((2 : Nat), SV.p (0 : Nat) (0 : Nat))] [HO.cells (ec a) (24 : Nat), HO.cells (ec b) (24 : Nat), HO.row (3 : Nat) (1 : Nat) (256 : Nat) (mapv (hvs (bl (nb a (256 : Nat))))), HO.row (3 : Nat) (1 : Nat) (256 : Nat) (mapv (hvs (bl (nb b (256 : Nat)))))]),
  Leaf2.mk [(!(↑x : Int) == (↑y : Int)) = false] [fun _ => decide ((0 : Int) ≤ i) = true,
    fun _ => (0 : Int) ≤ i ∧ i < (256 : Int),
    fun _ => (0 : Nat) < List.length (mapv (hvs (bl (nb a (256 : Nat))))),
    fun _ => (mapv (hvs (bl (nb a (256 : Nat)))))[Int.toNat i * (1 : Nat)]? = some (SV.v (Value.int IntKind.i64 (↑x : Int))),
    fun _ => (0 : Int) ≤ i ∧ i < (256 : Int),
    fun _ => (0 : Nat) < List.length (mapv (hvs (bl (nb b (256 : Nat))))),
    fun _ => (mapv (hvs (bl (nb b (256 : Nat)))))[Int.toNat i * (1 : Nat)]? = some (SV.v (Value.int IntKind.i64 (↑y : Int))),
    fun _ => (!(↑x : Int) == (↑y : Int)) = false] (It.rnd [(0 : Nat), (0 : Nat), (1 : Nat), (0 : Nat), (1 : Nat), (1 : Nat), (1 : Nat)] (M + (1 : Nat)) :: kt) (St.mk [((7 : Nat), SV.v (Value.int IntKind.i64 (IntKind.wrap IntKind.i64 (i - (1 : Int))))), ((6 : Nat), SV.o (3 : Nat)), ((5 : Nat), SV.o (2 : Nat)), ((4 : Nat), SV.v (Value.bool false)), ((3 : Nat), SV.p (1 : Nat) (0 : Nat)), ((2 : Nat), SV.p (0 : Nat) (0 : Nat))] [HO.cells (ec a) (24 : Nat), HO.cells (ec b) (24 : Nat), HO.row (3 : Nat) (1 : Nat) (256 : Nat) (mapv (hvs (bl (nb a (256 : Nat))))), HO.row (3 : Nat) (1 : Nat) (256 : Nat) (mapv (hvs (bl (nb b (256 : Nat)))))])]
  := by kernel_rfl

theorem lessEnd (a b : Nat) (i : Int) : (((xgo Try.prog X (bodyOf Try.f17) 34 CH [] 30 [.f] (.nil) [.at qL, .rnd qL 1, .blk 0, .at [1,1,1,1]] (stL a b i) [] []).bind (ends Try.prog Try.f17.results.toList)).bind plainE) =
  some [EndP.mk [] [fun _ => decide ((0 : Int) ≤ i) = false] (Res.v (Value.bool false))]
  := by kernel_rfl

theorem nb_row (a i : Nat) (h : i < 256) : (mapv (hvs (bl (nb a (256 : Nat)))))[Int.toNat (i : Int) * (1 : Nat)]? = some (SV.v (Value.int IntKind.i64 ((a / 2 ^ i % 2 : Nat) : Int))) := by
  rw [hvs_eq, Int.toNat_natCast, Nat.mul_one, mapv_get _ _ (by rw [nb_length]; exact h), hide_eq, nb_get a 256 i h]
theorem nb_row_pos (a : Nat) : (0 : Nat) < List.length (mapv (hvs (bl (nb a (256 : Nat))))) := by
  rw [hvs_eq, mapv_length, nb_length]; omega
theorem rless_loop {w : World} (a b : Nat) (ha : a < top) (hb : b < top) : ∀ k : Nat, k ≤ 256 → a / 2 ^ k = b / 2 ^ k →
    Ok Try.prog (bodyOf Try.f17) 34 (F0 w) w (bodyPost Try.prog Try.f17 fun E w' => ∃ v r, E = .returned v ∧ r = Res.v (.bool (decide (a < b))) ∧ r.ok w w' v ∧ Below w.heap.size w w') (.rnd qL (k + 2) :: [.blk 0, .at [1,1,1,1]]) (stL a b ((k : Int) - 1))
  | 0, _, he => by
    refine Ok.rnd ?_
    refine ok_plain hm (F0.mono w) (fun _ h => h) 30 _ _ _ _ (lessEnd a b _) ⟨fun _ => ⟨?_, ?_⟩, trivial⟩
    · simp only [hold_cons, hold_nil, and_true]
      exact fun _ _ => decide_eq_false (by omega)
    · have : a = b := by simpa using he
      subst this
      simp
  | k + 1, hk, he => by
    have h1 : (((k + 1 : Nat) : Int) - 1) = (k : Int) := by omega
    rw [h1]
    refine Ok.rnd (xgo_trim hm (F0.mono w) finB 30 _ _ _ _ _ _ (lessRound a b (k + 1) (a / 2 ^ k % 2) (b / 2 ^ k % 2) k _) (paidCons (fun has => ⟨?_, ?_⟩) (paidCons (fun has => ⟨?_, ?_⟩) paidNil)))
    · have h0 := has _ List.mem_cons_self
      simp only [hold_cons, hold_nil, and_true]
      exact ⟨fun _ _ => decide_eq_true (by omega), fun _ _ => ⟨by omega, by omega⟩, fun _ _ => nb_row_pos a, fun _ _ => nb_row a k (by omega), fun _ _ => ⟨by omega, by omega⟩, fun _ _ => nb_row_pos b, fun _ _ => nb_row b k (by omega), fun _ _ => h0,
        fun _ _ => ⟨by omega, by omega⟩, fun _ _ => nb_row_pos a, fun _ _ => nb_row a k (by omega), fun _ _ => ⟨by omega, by omega⟩, fun _ _ => nb_row_pos b, fun _ _ => nb_row b k (by omega)⟩
    · have h0 := has _ List.mem_cons_self
      have hne : a / 2 ^ k % 2 ≠ b / 2 ^ k % 2 := fun h => by rw [h] at h0; simp at h0
      have hl := less_bit a b k he hne
      refine Ok.ret (.v (.bool (decide (((a / 2 ^ k % 2 : Nat) : Int) < ((b / 2 ^ k % 2 : Nat) : Int))))) rfl fun e w' S => ⟨_, _, rfl, rfl, ?_, below_of (fun _ h => h) S⟩
      show Value.bool _ = Value.bool _
      congr 1
      rw [Bool.eq_iff_iff, decide_eq_true_iff, decide_eq_true_iff, ← hl]
      omega
    · have h0 := has _ List.mem_cons_self
      simp only [hold_cons, hold_nil, and_true]
      exact ⟨fun _ _ => decide_eq_true (by omega), fun _ _ => ⟨by omega, by omega⟩, fun _ _ => nb_row_pos a, fun _ _ => nb_row a k (by omega), fun _ _ => ⟨by omega, by omega⟩, fun _ _ => nb_row_pos b, fun _ _ => nb_row b k (by omega), fun _ _ => h0⟩
    · have h0 := has _ List.mem_cons_self
      have heq : a / 2 ^ k % 2 = b / 2 ^ k % 2 := Int.ofNat_inj.1 (by simpa only [Bool.not_eq_false', beq_iff_eq] using h0)
      have he2 : a / 2 ^ k = b / 2 ^ k := by rw [div_succ a k, div_succ b k, he, heq]
      have hw := wrap_pred k (by omega)
      refine ok_mono ?_ (rless_loop a b ha hb k (by omega) he2)
      simp only [stL, hw]
theorem rless_ok (a b : Nat) (ha : a < top) (hb : b < top) (w : World) : Calls Try.prog 17 [el a, el b].toArray w (fun E w' => ∃ v, E = .returned v ∧ Res.ok w w' (.v (.bool (decide (a < b)))) v ∧ Below w.heap.size w w') := by
  refine con_end (calls_of_ok (B := bodyOf Try.f17) (n := 34) Try.func17 (by kernel_rfl) rfl rfl (F := F0 w) (fun _ _ h => h) ?_)
  refine xgo_trim hm (F0.mono w) finB 50 _ _ _ _ _ _ (lessStart a b) (paidCons (fun _ => ⟨?_, ?_⟩) paidNil)
  · simp only [hold_cons, hold_nil, and_true, elN_eq ha, elN_eq hb]
    exact ⟨fun _ _ => trivial, fun _ _ => trivial⟩
  · refine ok_mono (st := stL a b 255) ?_ (Ok.loop 258 (by kernel_rfl) (rless_loop a b ha hb 256 (Nat.le_refl _) ?_))
    · simp only [stL, elN_eq ha, elN_eq hb]
    · rw [pow256, Nat.div_eq_of_lt ha, Nat.div_eq_of_lt hb]
end Go.Proofs.Ytcipmpamhffclaa

namespace Go.Pl
open Go.Sx
theorem mapv_snoc (l : List Nat) (b : Nat) : mapv (bl l) ++ [SV.v (.int .i64 (b : Int))] = mapv (bl (l ++ [b])) := by simp [mapv, bl]
theorem vb_snoc (l : List Nat) (b : Nat) : vb (l ++ [b]) = vb l + 2 ^ l.length * b := by
  induction l with
  | nil => simp [vb]
  | cons x r ih =>
    simp only [List.cons_append, vb, ih, List.length_cons, Nat.pow_succ']
    rw [Nat.mul_add, Nat.mul_assoc]
    omega
theorem mod_succ (a k : Nat) : a % 2 ^ (k + 1) = a % 2 ^ k + 2 ^ k * (a / 2 ^ k % 2) := by
  rw [Nat.pow_succ, Nat.mod_mul]
/-- One digit of a difference. -/
theorem sub_step (a b i c x y d c' vl : Nat) (h : a % 2 ^ i + 2 ^ i * c = vl + b % 2 ^ i) (hx : a / 2 ^ i % 2 = x) (hy : b / 2 ^ i % 2 = y) (hd : x + 2 * c' = d + y + c) :
    a % 2 ^ (i + 1) + 2 ^ (i + 1) * c' = vl + 2 ^ i * d + b % 2 ^ (i + 1) := by
  rw [mod_succ, mod_succ, hx, hy, Nat.pow_succ, Nat.mul_assoc]
  have h1 : 2 ^ i * (x + 2 * c') = 2 ^ i * (d + y + c) := by rw [hd]
  simp only [Nat.mul_add] at h1
  omega
end Go.Pl
namespace Go.Proofs.Ytcipmpamhffclaa
open Go.Sx Go.Pl Go.RowKit
theorem subStart (a b : Nat) : ((xgo Try.prog X (bodyOf Try.f15) 44 CH [] 50 [] (Tree.nil) [.at []] ⟨argsTm 0 [el a, el b], []⟩ [] []).map (trims [10, 9, 8, 7, 6, 5, 4, 3, 2])) =
  some [Leaf2.mk [] [fun _ => el a = el (elN a),
    fun _ => el b = el (elN b)] [It.at [(0 : Nat), (1 : Nat), (0 : Nat), (1 : Nat), (1 : Nat), (1 : Nat), (1 : Nat), (1 : Nat)], It.blk (0 : Nat), It.at [(1 : Nat), (1 : Nat), (1 : Nat), (1 : Nat), (1 : Nat), (1 : Nat)]] (St.mk [((10 : Nat), SV.v (Value.int IntKind.i64 (0 : Int))), ((9 : Nat), SV.v (Value.int IntKind.i64 (0 : Int))), ((8 : Nat), SV.o (5 : Nat)), ((7 : Nat), SV.o (4 : Nat)), ((6 : Nat), SV.o (3 : Nat)), ((5 : Nat), SV.v (Value.bool false)), ((4 : Nat), SV.p (2 : Nat) (0 : Nat)), ((3 : Nat), SV.p (1 : Nat) (0 : Nat)), ((2 : Nat), SV.p (0 : Nat) (0 : Nat))] [HO.cells (ec a) (24 : Nat), HO.cells (ec b) (24 : Nat), HO.cells [SV.v (Value.int IntKind.u64 (0 : Int)), SV.v (Value.int IntKind.u64 (0 : Int)), SV.v (Value.int IntKind.u64 (0 : Int)), SV.v (Value.int IntKind.u64 (0 : Int))] (24 : Nat), HO.row (3 : Nat) (1 : Nat) (256 : Nat) (mapv (hvs (bl (nb (elN a) (256 : Nat))))), HO.row (3 : Nat) (1 : Nat) (256 : Nat) (mapv (hvs (bl (nb (elN b) (256 : Nat))))), HO.row (3 : Nat) (1 : Nat) (0 : Nat) []])]
  := by kernel_rfl

theorem subRound (a b n M x y : Nat) (i c : Int) (l : List Nat) (kt : List It) : ((xgo Try.prog X (bodyOf Try.f15) 44 CH [] 30 [.t, .lo 3 (.v (.int .i64 (x : Int))), .lo 4 (.v (.int .i64 (y : Int)))] ((.br [] .nil [] .nil)) (.at qS :: .rnd qS (M + 1) :: kt) (stS a b i c n l) [] []).map (trims [10, 9, 8, 7, 6, 5, 4, 3, 2])) =
  some [Leaf2.mk [decide (IntKind.wrap IntKind.i64 (IntKind.wrap IntKind.i64 ((↑x : Int) - (↑y : Int)) - c) < (0 : Int)) = true] [fun _ => decide (i < (256 : Int)) = true,
    fun _ => (0 : Int) ≤ i ∧ i < (256 : Int),
    fun _ => (0 : Nat) < List.length (mapv (hvs (bl (nb a (256 : Nat))))),
    fun _ => (mapv (hvs (bl (nb a (256 : Nat)))))[Int.toNat i * (1 : Nat)]? = some (SV.v (Value.int IntKind.i64 (↑x : Int))),
    fun _ => (0 : Int) ≤ i ∧ i < (256 : Int),
    fun _ => (0 : Nat) < List.length (mapv (hvs (bl (nb b (256 : Nat))))),
    fun _ => (mapv (hvs (bl (nb b (256 : Nat)))))[Int.toNat i * (1 : Nat)]? = some (SV.v (Value.int IntKind.i64 (↑y : Int))),
    fun _ => decide (IntKind.wrap IntKind.i64 (IntKind.wrap IntKind.i64 ((↑x : Int) - (↑y : Int)) - c) < (0 : Int)) = true,
    fun _ => (n + (1 : Nat)) * (8 : Nat) ≤ (140737488355328 : Nat) ∧ n + (1 : Nat) ≤ (140737488355328 : Nat)] (It.rnd [(0 : Nat), (0 : Nat), (1 : Nat), (0 : Nat), (1 : Nat), (1 : Nat), (1 : Nat), (1 : Nat), (1 : Nat)] (M + (1 : Nat)) :: kt) (St.mk [((10 : Nat), SV.v (Value.int IntKind.i64 (IntKind.wrap IntKind.i64 (i + (1 : Int))))), ((9 : Nat), SV.v (Value.int IntKind.i64 (1 : Int))), ((8 : Nat), SV.o (7 : Nat)), ((7 : Nat), SV.o (4 : Nat)), ((6 : Nat), SV.o (3 : Nat)), ((5 : Nat), SV.v (Value.bool false)), ((4 : Nat), SV.p (2 : Nat) (0 : Nat)), ((3 : Nat), SV.p (1 : Nat) (0 : Nat)), ((2 : Nat), SV.p (0 : Nat) (0 : Nat))] [HO.cells (ec a) (24 : Nat), HO.cells (ec b) (24 : Nat), HO.cells (ec (0 : Nat)) (24 : Nat), HO.row (3 : Nat) (1 : Nat) (256 : Nat) (mapv (hvs (bl (nb a (256 : Nat))))), HO.row (3 : Nat) (1 : Nat) (256 : Nat) (mapv (hvs (bl (nb b (256 : Nat))))), HO.gone, HO.row (3 : Nat) (1 : Nat) (1 : Nat) [SV.v (Value.int IntKind.i64 (IntKind.wrap IntKind.i64 (IntKind.wrap IntKind.i64 (IntKind.wrap IntKind.i64 ((↑x : Int) - (↑y : Int)) - c) + (2 : Int))))], HO.row (3 : Nat) (1 : Nat) (n + (1 : Nat)) (mapv (bl l) ++ [SV.v (Value.int IntKind.i64 (IntKind.wrap IntKind.i64 (IntKind.wrap IntKind.i64 (IntKind.wrap IntKind.i64 ((↑x : Int) - (↑y : Int)) - c) + (2 : Int))))])]),
  Leaf2.mk [decide (IntKind.wrap IntKind.i64 (IntKind.wrap IntKind.i64 ((↑x : Int) - (↑y : Int)) - c) < (0 : Int)) = false] [fun _ => decide (i < (256 : Int)) = true,
    fun _ => (0 : Int) ≤ i ∧ i < (256 : Int),
    fun _ => (0 : Nat) < List.length (mapv (hvs (bl (nb a (256 : Nat))))),
    fun _ => (mapv (hvs (bl (nb a (256 : Nat)))))[Int.toNat i * (1 : Nat)]? = some (SV.v (Value.int IntKind.i64 (↑x : Int))),
    fun _ => (0 : Int) ≤ i ∧ i < (256 : Int),
    fun _ => (0 : Nat) < List.length (mapv (hvs (bl (nb b (256 : Nat))))),
    fun _ => (mapv (hvs (bl (nb b (256 : Nat)))))[Int.toNat i * (1 : Nat)]? = some (SV.v (Value.int IntKind.i64 (↑y : Int))),
    fun _ => decide (IntKind.wrap IntKind.i64 (IntKind.wrap IntKind.i64 ((↑x : Int) - (↑y : Int)) - c) < (0 : Int)) = false,
    fun _ => (n + (1 : Nat)) * (8 : Nat) ≤ (140737488355328 : Nat) ∧ n + (1 : Nat) ≤ (140737488355328 : Nat)] (It.rnd [(0 : Nat), (0 : Nat), (1 : Nat), (0 : Nat), (1 : Nat), (1 : Nat), (1 : Nat), (1 : Nat), (1 : Nat)] (M + (1 : Nat)) :: kt) (St.mk [((10 : Nat), SV.v (Value.int IntKind.i64 (IntKind.wrap IntKind.i64 (i + (1 : Int))))), ((9 : Nat), SV.v (Value.int IntKind.i64 (0 : Int))), ((8 : Nat), SV.o (7 : Nat)), ((7 : Nat), SV.o (4 : Nat)), ((6 : Nat), SV.o (3 : Nat)), ((5 : Nat), SV.v (Value.bool false)), ((4 : Nat), SV.p (2 : Nat) (0 : Nat)), ((3 : Nat), SV.p (1 : Nat) (0 : Nat)), ((2 : Nat), SV.p (0 : Nat) (0 : Nat))] [HO.cells (ec a) (24 : Nat), HO.cells (ec b) (24 : Nat), HO.cells (ec (0 : Nat)) (24 : Nat), HO.row (3 : Nat) (1 : Nat) (256 : Nat) (mapv (hvs (bl (nb a (256 : Nat))))), HO.row (3 : Nat) (1 : Nat) (256 : Nat) (mapv (hvs (bl (nb b (256 : Nat))))), HO.gone, HO.row (3 : Nat) (1 : Nat) (1 : Nat) [SV.v (Value.int IntKind.i64 (IntKind.wrap IntKind.i64 (IntKind.wrap IntKind.i64 ((↑x : Int) - (↑y : Int)) - c)))], HO.row (3 : Nat) (1 : Nat) (n + (1 : Nat)) (mapv (bl l) ++ [SV.v (Value.int IntKind.i64 (IntKind.wrap IntKind.i64 (IntKind.wrap IntKind.i64 ((↑x : Int) - (↑y : Int)) - c)))])])]
  := by kernel_rfl

theorem subEnd (a b n : Nat) (i c : Int) (l : List Nat) : (((xgo Try.prog X (bodyOf Try.f15) 44 CH [] 30 [.f] (.nil) [.at qS, .rnd qS 1, .blk 0, .at [1,1,1,1,1,1]] (stS a b i c n l) [] []).bind (ends Try.prog Try.f15.results.toList)).bind plainE) =
  some [EndP.mk [] [fun _ => decide (i < (256 : Int)) = false,
    fun _ => mapv (bl l) = mapv (unv (mapv (bl l))),
    fun _ => (0 : Nat) < n ∧ unv (mapv (bl l)) = bl (unbl (unv (mapv (bl l)))) ∧ List.length (unbl (unv (mapv (bl l)))) = n ∧ ∀ (b : Nat), b ∈ unbl (unv (mapv (bl l))) → b ≤ (1 : Nat),
    fun _ => (0 : Nat) + (4 : Nat) ≤ (4 : Nat)] (Res.v (Value.tuple (Array.mk [el (hide (vb (List.take (256 : Nat) (unbl (unv (mapv (bl l))))))), Value.bool (c == (1 : Int))])))]
  := by kernel_rfl

theorem renL_mapv' (π : List Nat) (l : List Value) : renL π (mapv l) = mapv l := renL_mapv π l
theorem ren_row (π : List Nat) (T : TypeId) (sz n : Nat) (l : List Value) : some (HO.row T sz n (mapv l)) = some (renH π (.row T sz n (mapv l))) := by
  simp only [renH, renL_mapv']
theorem sub_next {w : World} {fin : Exit → Act → World → Prop} (a b : Nat) (i c n : Nat) (l : List Nat) (M : Nat) (kt : List It) (tm : List (Nat × SV)) (hp : List HO)
    (h1 : RenT [0, 1, 2, 3, 4, 7] tm (stS a b i c n l).tm) (h2 : RenH [0, 1, 2, 3, 4, 7] hp (stS a b i c n l).heap [0, 1, 2, 3, 4, 7])
    (next : Ok Try.prog (bodyOf Try.f15) 44 (F0 w) w fin (.rnd qS (M + 1) :: kt) (stS a b i c n l)) : Ok Try.prog (bodyOf Try.f15) 44 (F0 w) w fin (.rnd qS (M + 1) :: kt) ⟨tm, hp⟩ := by
  refine Ok.weaken (F0.mono w) [0, 1, 2, 3, 4, 7] _ h1 h2 rfl ⟨?_, ?_⟩ next
  · simp [stS, wsAllT, ws]
  · simp [stS, wsAllH, HO.ws, ec, wsL, ws]
    exact ⟨wsL_mapv _ _, wsL_mapv _ _, wsL_mapv _ _⟩
theorem rsub_loop {w : World} (a b : Nat) (ha : a < top) (hb : b < top) : ∀ (k i c : Nat) (l : List Nat), i + k = 256 → c ≤ 1 → l.length = i → (∀ b ∈ l, b ≤ 1) → a % 2 ^ i + 2 ^ i * c = vb l + b % 2 ^ i →
    Ok Try.prog (bodyOf Try.f15) 44 (F0 w) w (bodyPost Try.prog Try.f15 fun E w' => ∃ v r, E = .returned v ∧ r = Res.v (.tuple #[el (a + top - b), .bool (decide (a < b))]) ∧ r.ok w w' v ∧ Below w.heap.size w w') (.rnd qS (k + 2) :: [.blk 0, .at [1,1,1,1,1,1]]) (stS a b i c i l)
  | 0, i, c, l, hi, hc, hl, hb1, hv => by
    have hi : i = 256 := by omega
    subst hi
    rw [pow256, Nat.mod_eq_of_lt ha, Nat.mod_eq_of_lt hb] at hv
    have hlt := vb_lt l hb1
    rw [hl, pow256] at hlt
    have htk : l.take 256 = l := by rw [← hl, List.take_length]
    refine Ok.rnd (ok_plain hm (F0.mono w) (fun _ h => h) 30 _ _ _ _ (subEnd a b 256 _ c l) ⟨fun _ => ⟨?_, ?_⟩, trivial⟩)
    · simp only [hold_cons, hold_nil, and_true, unv_mapv', unbl_bl]
      exact ⟨fun _ _ => decide_eq_false (by omega), fun _ _ => trivial, fun _ _ => ⟨by omega, trivial, hl, hb1⟩, fun _ _ => by omega⟩
    · rw [unv_mapv', unbl_bl, htk, hide_eq]
      have hc2 : c = 0 ∨ c = 1 := by omega
      have h3 : el (vb l) = el (a + top - b) ∧ (((c : Nat) : Int) == (1 : Int)) = decide (a < b) := by
        rcases hc2 with h | h
        · subst h
          rw [Nat.mul_zero, Nat.add_zero] at hv
          constructor
          · rw [show a + top - b = vb l + top * 1 by omega, el_add_top]
          · rw [decide_eq_false (by omega)]; rfl
        · subst h
          rw [Nat.mul_one] at hv
          constructor
          · rw [show a + top - b = vb l by omega]
          · rw [decide_eq_true (by omega)]; rfl
      rw [h3.1, h3.2]
  | k + 1, i, c, l, hi, hc, hl, hb1, hv => by
    have hx2 : a / 2 ^ i % 2 < 2 := Nat.mod_lt _ (by omega)
    have hy2 : b / 2 ^ i % 2 < 2 := Nat.mod_lt _ (by omega)
    generalize hx : a / 2 ^ i % 2 = x at *
    generalize hy : b / 2 ^ i % 2 = y at *
    have rx := nb_row a i (by omega)
    have ry := nb_row b i (by omega)
    rw [hx] at rx
    rw [hy] at ry
    have ew1 : IntKind.wrap .i64 ((x : Int) - (y : Int)) = (x : Int) - (y : Int) := by simp [IntKind.wrap, IntKind.bits, IntKind.signed]; omega
    have ew2 : IntKind.wrap .i64 ((x : Int) - (y : Int) - (c : Int)) = (x : Int) - (y : Int) - (c : Int) := by simp [IntKind.wrap, IntKind.bits, IntKind.signed]; omega
    have ew3 : IntKind.wrap .i64 ((i : Int) + 1) = ((i + 1 : Nat) : Int) := wrap_i64 (i + 1) (by omega)
    refine Ok.rnd (xgo_trim hm (F0.mono w) finB 30 _ _ _ _ _ _ (subRound a b i (k + 1) x y i c l _) (paidCons (fun has => ⟨?_, ?_⟩) (paidCons (fun has => ⟨?_, ?_⟩) paidNil)))
    · have h0 := has _ List.mem_cons_self
      simp only [hold_cons, hold_nil, and_true]
      exact ⟨fun _ _ => decide_eq_true (by omega), fun _ _ => ⟨by omega, by omega⟩, fun _ _ => nb_row_pos a, fun _ _ => rx, fun _ _ => ⟨by omega, by omega⟩, fun _ _ => nb_row_pos b, fun _ _ => ry, fun _ _ => h0, fun _ _ => ⟨by omega, by omega⟩⟩
    · have h0 := has _ List.mem_cons_self
      simp only [ew1, ew2] at h0 ⊢
      have hneg : (x : Int) - y - c < 0 := of_decide_eq_true h0
      have ew4 : IntKind.wrap .i64 ((x : Int) - (y : Int) - (c : Int) + 2) = ((x + 2 - y - c : Nat) : Int) := by simp [IntKind.wrap, IntKind.bits, IntKind.signed]; omega
      refine sub_next a b (i + 1) 1 (i + 1) (l ++ [x + 2 - y - c]) _ _ _ _ ⟨congrArg (fun z => some (SV.v (Value.int IntKind.i64 z))) ew3, rfl, rfl, rfl, rfl, rfl, rfl, rfl, rfl, trivial⟩ ⟨rfl, rfl, rfl, ren_row _ _ _ _ _, ren_row _ _ _ _ _, ?_, trivial⟩
        (rsub_loop a b ha hb k (i + 1) 1 _ (by omega) (by omega) (by simp [hl]) ?_ ?_)
      · show some (HO.row 3 1 (i + 1) (mapv (bl l) ++ [SV.v (Value.int IntKind.i64 (IntKind.wrap .i64 ((x : Int) - (y : Int) - (c : Int) + 2)))])) = some (HO.row 3 1 (i + 1) (renL [0, 1, 2, 3, 4, 7] (mapv (bl (l ++ [x + 2 - y - c])))))
        rw [ew4, mapv_snoc, renL_mapv']
      · intro q hq
        rcases List.mem_append.1 hq with hq | hq
        · exact hb1 q hq
        · rw [List.mem_singleton] at hq; omega
      · rw [vb_snoc, hl]
        exact sub_step a b i c x y _ 1 _ hv hx hy (by omega)
    · have h0 := has _ List.mem_cons_self
      simp only [hold_cons, hold_nil, and_true]
      exact ⟨fun _ _ => decide_eq_true (by omega), fun _ _ => ⟨by omega, by omega⟩, fun _ _ => nb_row_pos a, fun _ _ => rx, fun _ _ => ⟨by omega, by omega⟩, fun _ _ => nb_row_pos b, fun _ _ => ry, fun _ _ => h0, fun _ _ => ⟨by omega, by omega⟩⟩
    · have h0 := has _ List.mem_cons_self
      simp only [ew1, ew2] at h0 ⊢
      have hpos : ¬ (x : Int) - y - c < 0 := of_decide_eq_false h0
      have ew4 : ((x : Int) - (y : Int) - (c : Int)) = ((x - y - c : Nat) : Int) := by omega
      refine sub_next a b (i + 1) 0 (i + 1) (l ++ [x - y - c]) _ _ _ _ ⟨congrArg (fun z => some (SV.v (Value.int IntKind.i64 z))) ew3, rfl, rfl, rfl, rfl, rfl, rfl, rfl, rfl, trivial⟩ ⟨rfl, rfl, rfl, ren_row _ _ _ _ _, ren_row _ _ _ _ _, ?_, trivial⟩
        (rsub_loop a b ha hb k (i + 1) 0 _ (by omega) (by omega) (by simp [hl]) ?_ ?_)
      · show some (HO.row 3 1 (i + 1) (mapv (bl l) ++ [SV.v (Value.int IntKind.i64 ((x : Int) - (y : Int) - (c : Int)))])) = some (HO.row 3 1 (i + 1) (renL [0, 1, 2, 3, 4, 7] (mapv (bl (l ++ [x - y - c])))))
        rw [ew4, mapv_snoc, renL_mapv']
      · intro q hq
        rcases List.mem_append.1 hq with hq | hq
        · exact hb1 q hq
        · rw [List.mem_singleton] at hq; omega
      · rw [vb_snoc, hl]
        exact sub_step a b i c x y _ 0 _ hv hx hy (by omega)
theorem rsub_ok (a b : Nat) (ha : a < top) (hb : b < top) (w : World) : Calls Try.prog 15 [el a, el b].toArray w (fun E w' => ∃ v, E = .returned v ∧ Res.ok w w' (.v (.tuple #[el (a + top - b), .bool (decide (a < b))])) v ∧ Below w.heap.size w w') := by
  refine con_end (calls_of_ok (B := bodyOf Try.f15) (n := 44) Try.func15 (by kernel_rfl) rfl rfl (F := F0 w) (fun _ _ h => h) ?_)
  refine xgo_trim hm (F0.mono w) finB 50 _ _ _ _ _ _ (subStart a b) (paidCons (fun _ => ⟨?_, ?_⟩) paidNil)
  · simp only [hold_cons, hold_nil, and_true, elN_eq ha, elN_eq hb]
    exact ⟨fun _ _ => trivial, fun _ _ => trivial⟩
  · refine ok_mono (st := stS a b 0 0 0 []) ?_ (Ok.loop 258 (by kernel_rfl) (rsub_loop a b ha hb 256 0 0 [] (by omega) (by omega) rfl (fun _ h => by cases h) (by simp [vb, Nat.mod_one])))
    simp only [stS, elN_eq ha, elN_eq hb, ec_zero]
    rfl
end Go.Proofs.Ytcipmpamhffclaa
