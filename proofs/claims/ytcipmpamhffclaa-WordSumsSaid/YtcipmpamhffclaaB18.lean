/- The document's sum of two numbers. -/
import Derived.Test.YtcipmpamhffclaaB17
namespace Go.Pl
open Go.Sx
theorem mapv_get (l : List Nat) (i : Nat) (h : i < l.length) : (mapv (bl l))[i]? = some (SV.v (.int .i64 ((hide (l.getD i 0) : Nat) : Int))) := by
  rw [hide_eq]
  simp [mapv, bl, List.getD, List.getElem?_eq_getElem h]
theorem mapv_length (l : List Nat) : (mapv (bl l)).length = l.length := by simp [mapv, bl]
theorem pow256 : (2 : Nat) ^ 256 = top := by decide +kernel
theorem adb_word (a b : Nat) (ha : a < top) (hb : b < top) : vb ((adb (nb a 256) (nb b 256) 0).take 256) = (a + b) % top ∧ (adb (nb a 256) (nb b 256) 0).getD 256 0 = (a + b) / top := by
  have hl : (nb a 256).length = (nb b 256).length := by rw [nb_length, nb_length]
  have h0 : vb (adb (nb a 256) (nb b 256) 0) = a + b := by
    rw [adb_vb _ _ _ hl, vb_nb, vb_nb, pow256, Nat.mod_eq_of_lt ha, Nat.mod_eq_of_lt hb, Nat.add_zero]
  have hb' := adb_bit (nb a 256) (nb b 256) 0 hl (by omega) (nb_bit _ _) (nb_bit _ _)
  have h1 := vb_take _ hb' 256
  rw [h0, pow256] at h1
  have h2 := vb_split _ 256 (by rw [adb_length _ _ _ hl, nb_length]) hb'
  rw [h0, h1, pow256] at h2
  refine ⟨h1, ?_⟩
  have h3 := Nat.div_add_mod (a + b) top
  have h4 : top * (adb (nb a 256) (nb b 256) 0).getD 256 0 = top * ((a + b) / top) := by omega
  exact Nat.eq_of_mul_eq_mul_left (by simp only [top]; omega) h4
end Go.Pl
namespace Go.Proofs.Ytcipmpamhffclaa
open Go.Sx Go.Pl Go.RowKit
theorem run13 (a b : Nat) : (((xgo Try.prog X (bodyOf Try.f13) 18 CH [] 50 [.lo 5 (.v (.int .i64 ((hide ((adb (nb a 256) (nb b 256) 0).getD 256 0) : Nat) : Int)))] (.nil) [.at []] ⟨argsTm 0 [el a, el b], []⟩ [] []).bind (ends Try.prog Try.f13.results.toList)).bind plainE) =
  some [EndP.mk [] [fun _ => el a = el (elN a),
    fun _ => el b = el (elN b),
    fun _ => mapv (hvs (bl (nb (elN a) (256 : Nat)))) = mapv (unv (mapv (hvs (bl (nb (elN a) (256 : Nat)))))),
    fun _ => mapv (hvs (bl (nb (elN b) (256 : Nat)))) = mapv (unv (mapv (hvs (bl (nb (elN b) (256 : Nat)))))),
    fun _ => (256 : Nat) = (256 : Nat) ∧ (0 : Nat) < (256 : Nat) ∧ (256 : Nat) ≤ (900 : Nat) ∧ unv (mapv (hvs (bl (nb (elN a) (256 : Nat))))) = bl (unbl (unv (mapv (hvs (bl (nb (elN a) (256 : Nat))))))) ∧ unv (mapv (hvs (bl (nb (elN b) (256 : Nat))))) = bl (unbl (unv (mapv (hvs (bl (nb (elN b) (256 : Nat))))))) ∧ List.length (unbl (unv (mapv (hvs (bl (nb (elN a) (256 : Nat))))))) = (256 : Nat) ∧ List.length (unbl (unv (mapv (hvs (bl (nb (elN b) (256 : Nat))))))) = (256 : Nat) ∧ (∀ (b : Nat), b ∈ unbl (unv (List.map SV.v (hvs (bl (nb (elN a) (256 : Nat)))))) → b ≤ (1 : Nat)) ∧ ∀ (b_1 : Nat), b_1 ∈ unbl (unv (List.map SV.v (hvs (bl (nb (elN b) (256 : Nat)))))) → b_1 ≤ (1 : Nat),
    fun _ => (0 : Int) ≤ (256 : Int) ∧ (256 : Int) < (257 : Int),
    fun _ => mapv (hvs (bl (adb (unbl (unv (mapv (hvs (bl (nb (elN a) (256 : Nat))))))) (unbl (unv (mapv (hvs (bl (nb (elN b) (256 : Nat))))))) (0 : Nat)))) = mapv (unv (mapv (hvs (bl (adb (unbl (unv (mapv (hvs (bl (nb (elN a) (256 : Nat))))))) (unbl (unv (mapv (hvs (bl (nb (elN b) (256 : Nat))))))) (0 : Nat)))))),
    fun _ => (0 : Nat) < (257 : Nat) ∧ unv (mapv (hvs (bl (adb (unbl (unv (mapv (hvs (bl (nb (elN a) (256 : Nat))))))) (unbl (unv (mapv (hvs (bl (nb (elN b) (256 : Nat))))))) (0 : Nat))))) = bl (unbl (unv (mapv (hvs (bl (adb (unbl (unv (mapv (hvs (bl (nb (elN a) (256 : Nat))))))) (unbl (unv (mapv (hvs (bl (nb (elN b) (256 : Nat))))))) (0 : Nat))))))) ∧ List.length (unbl (unv (mapv (hvs (bl (adb (unbl (unv (mapv (hvs (bl (nb (elN a) (256 : Nat))))))) (unbl (unv (mapv (hvs (bl (nb (elN b) (256 : Nat))))))) (0 : Nat))))))) = (257 : Nat) ∧ ∀ (b_1 : Nat), b_1 ∈ unbl (unv (List.map SV.v (hvs (bl (adb (unbl (unv (List.map SV.v (hvs (bl (nb (elN a) (256 : Nat))))))) (unbl (unv (List.map SV.v (hvs (bl (nb (elN b) (256 : Nat))))))) (0 : Nat)))))) → b_1 ≤ (1 : Nat),
    fun _ => (0 : Nat) < List.length (mapv (hvs (bl (adb (unbl (unv (mapv (hvs (bl (nb (elN a) (256 : Nat))))))) (unbl (unv (mapv (hvs (bl (nb (elN b) (256 : Nat))))))) (0 : Nat))))),
    fun _ => (mapv (hvs (bl (adb (unbl (unv (mapv (hvs (bl (nb (elN a) (256 : Nat))))))) (unbl (unv (mapv (hvs (bl (nb (elN b) (256 : Nat))))))) (0 : Nat)))))[(256 : Nat)]? = some (SV.v (Value.int IntKind.i64 (↑(hide (List.getD (adb (nb a (256 : Nat)) (nb b (256 : Nat)) (0 : Nat)) (256 : Nat) (0 : Nat))) : Int))),
    fun _ => (0 : Nat) + (4 : Nat) ≤ (4 : Nat)] (Res.v (Value.tuple (Array.mk [el (hide (vb (List.take (256 : Nat) (unbl (unv (mapv (hvs (bl (adb (unbl (unv (mapv (hvs (bl (nb (elN a) (256 : Nat))))))) (unbl (unv (mapv (hvs (bl (nb (elN b) (256 : Nat))))))) (0 : Nat)))))))))), Value.bool ((↑(hide (List.getD (adb (nb a (256 : Nat)) (nb b (256 : Nat)) (0 : Nat)) (256 : Nat) (0 : Nat))) : Int) == (1 : Int))]))),
  EndP.mk [] [fun _ => el a = el (elN a),
    fun _ => el b = el (elN b),
    fun _ => mapv (hvs (bl (nb (elN a) (256 : Nat)))) = mapv (unv (mapv (hvs (bl (nb (elN a) (256 : Nat)))))),
    fun _ => mapv (hvs (bl (nb (elN b) (256 : Nat)))) = mapv (unv (mapv (hvs (bl (nb (elN b) (256 : Nat)))))),
    fun _ => (256 : Nat) = (256 : Nat) ∧ (0 : Nat) < (256 : Nat) ∧ (256 : Nat) ≤ (900 : Nat) ∧ unv (mapv (hvs (bl (nb (elN a) (256 : Nat))))) = bl (unbl (unv (mapv (hvs (bl (nb (elN a) (256 : Nat))))))) ∧ unv (mapv (hvs (bl (nb (elN b) (256 : Nat))))) = bl (unbl (unv (mapv (hvs (bl (nb (elN b) (256 : Nat))))))) ∧ List.length (unbl (unv (mapv (hvs (bl (nb (elN a) (256 : Nat))))))) = (256 : Nat) ∧ List.length (unbl (unv (mapv (hvs (bl (nb (elN b) (256 : Nat))))))) = (256 : Nat) ∧ (∀ (b : Nat), b ∈ unbl (unv (List.map SV.v (hvs (bl (nb (elN a) (256 : Nat)))))) → b ≤ (1 : Nat)) ∧ ∀ (b_1 : Nat), b_1 ∈ unbl (unv (List.map SV.v (hvs (bl (nb (elN b) (256 : Nat)))))) → b_1 ≤ (1 : Nat),
    fun _ => (0 : Int) ≤ (256 : Int) ∧ (256 : Int) < (257 : Int),
    fun _ => mapv (hvs (bl (adb (unbl (unv (mapv (hvs (bl (nb (elN a) (256 : Nat))))))) (unbl (unv (mapv (hvs (bl (nb (elN b) (256 : Nat))))))) (0 : Nat)))) = mapv (unv (mapv (hvs (bl (adb (unbl (unv (mapv (hvs (bl (nb (elN a) (256 : Nat))))))) (unbl (unv (mapv (hvs (bl (nb (elN b) (256 : Nat))))))) (0 : Nat)))))),
    fun _ => (0 : Nat) < (257 : Nat) ∧ unv (mapv (hvs (bl (adb (unbl (unv (mapv (hvs (bl (nb (elN a) (256 : Nat))))))) (unbl (unv (mapv (hvs (bl (nb (elN b) (256 : Nat))))))) (0 : Nat))))) = bl (unbl (unv (mapv (hvs (bl (adb (unbl (unv (mapv (hvs (bl (nb (elN a) (256 : Nat))))))) (unbl (unv (mapv (hvs (bl (nb (elN b) (256 : Nat))))))) (0 : Nat))))))) ∧ List.length (unbl (unv (mapv (hvs (bl (adb (unbl (unv (mapv (hvs (bl (nb (elN a) (256 : Nat))))))) (unbl (unv (mapv (hvs (bl (nb (elN b) (256 : Nat))))))) (0 : Nat))))))) = (257 : Nat) ∧ ∀ (b_1 : Nat), b_1 ∈ unbl (unv (List.map SV.v (hvs (bl (adb (unbl (unv (List.map SV.v (hvs (bl (nb (elN a) (256 : Nat))))))) (unbl (unv (List.map SV.v (hvs (bl (nb (elN b) (256 : Nat))))))) (0 : Nat)))))) → b_1 ≤ (1 : Nat),
    fun _ => (0 : Nat) + (4 : Nat) ≤ (4 : Nat),
    fun _ => (0 : Nat) < List.length (mapv (hvs (bl (adb (unbl (unv (mapv (hvs (bl (nb (elN a) (256 : Nat))))))) (unbl (unv (mapv (hvs (bl (nb (elN b) (256 : Nat))))))) (0 : Nat))))),
    fun _ => (mapv (hvs (bl (adb (unbl (unv (mapv (hvs (bl (nb (elN a) (256 : Nat))))))) (unbl (unv (mapv (hvs (bl (nb (elN b) (256 : Nat))))))) (0 : Nat)))))[(256 : Nat)]? = some (SV.v (Value.int IntKind.i64 (↑(hide (List.getD (adb (nb a (256 : Nat)) (nb b (256 : Nat)) (0 : Nat)) (256 : Nat) (0 : Nat))) : Int)))] (Res.v (Value.tuple (Array.mk [el (hide (vb (List.take (256 : Nat) (unbl (unv (mapv (hvs (bl (adb (unbl (unv (mapv (hvs (bl (nb (elN a) (256 : Nat))))))) (unbl (unv (mapv (hvs (bl (nb (elN b) (256 : Nat))))))) (0 : Nat)))))))))), Value.bool ((↑(hide (List.getD (adb (nb a (256 : Nat)) (nb b (256 : Nat)) (0 : Nat)) (256 : Nat) (0 : Nat))) : Int) == (1 : Int))]))),
  EndP.mk [] [fun _ => el a = el (elN a),
    fun _ => el b = el (elN b),
    fun _ => mapv (hvs (bl (nb (elN a) (256 : Nat)))) = mapv (unv (mapv (hvs (bl (nb (elN a) (256 : Nat)))))),
    fun _ => mapv (hvs (bl (nb (elN b) (256 : Nat)))) = mapv (unv (mapv (hvs (bl (nb (elN b) (256 : Nat)))))),
    fun _ => (256 : Nat) = (256 : Nat) ∧ (0 : Nat) < (256 : Nat) ∧ (256 : Nat) ≤ (900 : Nat) ∧ unv (mapv (hvs (bl (nb (elN a) (256 : Nat))))) = bl (unbl (unv (mapv (hvs (bl (nb (elN a) (256 : Nat))))))) ∧ unv (mapv (hvs (bl (nb (elN b) (256 : Nat))))) = bl (unbl (unv (mapv (hvs (bl (nb (elN b) (256 : Nat))))))) ∧ List.length (unbl (unv (mapv (hvs (bl (nb (elN a) (256 : Nat))))))) = (256 : Nat) ∧ List.length (unbl (unv (mapv (hvs (bl (nb (elN b) (256 : Nat))))))) = (256 : Nat) ∧ (∀ (b : Nat), b ∈ unbl (unv (List.map SV.v (hvs (bl (nb (elN a) (256 : Nat)))))) → b ≤ (1 : Nat)) ∧ ∀ (b_1 : Nat), b_1 ∈ unbl (unv (List.map SV.v (hvs (bl (nb (elN b) (256 : Nat)))))) → b_1 ≤ (1 : Nat),
    fun _ => (0 : Int) ≤ (256 : Int) ∧ (256 : Int) < (257 : Int),
    fun _ => (0 : Nat) < List.length (mapv (hvs (bl (adb (unbl (unv (mapv (hvs (bl (nb (elN a) (256 : Nat))))))) (unbl (unv (mapv (hvs (bl (nb (elN b) (256 : Nat))))))) (0 : Nat))))),
    fun _ => (mapv (hvs (bl (adb (unbl (unv (mapv (hvs (bl (nb (elN a) (256 : Nat))))))) (unbl (unv (mapv (hvs (bl (nb (elN b) (256 : Nat))))))) (0 : Nat)))))[(256 : Nat)]? = some (SV.v (Value.int IntKind.i64 (↑(hide (List.getD (adb (nb a (256 : Nat)) (nb b (256 : Nat)) (0 : Nat)) (256 : Nat) (0 : Nat))) : Int))),
    fun _ => mapv (hvs (bl (adb (unbl (unv (mapv (hvs (bl (nb (elN a) (256 : Nat))))))) (unbl (unv (mapv (hvs (bl (nb (elN b) (256 : Nat))))))) (0 : Nat)))) = mapv (unv (mapv (hvs (bl (adb (unbl (unv (mapv (hvs (bl (nb (elN a) (256 : Nat))))))) (unbl (unv (mapv (hvs (bl (nb (elN b) (256 : Nat))))))) (0 : Nat)))))),
    fun _ => (0 : Nat) < (257 : Nat) ∧ unv (mapv (hvs (bl (adb (unbl (unv (mapv (hvs (bl (nb (elN a) (256 : Nat))))))) (unbl (unv (mapv (hvs (bl (nb (elN b) (256 : Nat))))))) (0 : Nat))))) = bl (unbl (unv (mapv (hvs (bl (adb (unbl (unv (mapv (hvs (bl (nb (elN a) (256 : Nat))))))) (unbl (unv (mapv (hvs (bl (nb (elN b) (256 : Nat))))))) (0 : Nat))))))) ∧ List.length (unbl (unv (mapv (hvs (bl (adb (unbl (unv (mapv (hvs (bl (nb (elN a) (256 : Nat))))))) (unbl (unv (mapv (hvs (bl (nb (elN b) (256 : Nat))))))) (0 : Nat))))))) = (257 : Nat) ∧ ∀ (b_1 : Nat), b_1 ∈ unbl (unv (List.map SV.v (hvs (bl (adb (unbl (unv (List.map SV.v (hvs (bl (nb (elN a) (256 : Nat))))))) (unbl (unv (List.map SV.v (hvs (bl (nb (elN b) (256 : Nat))))))) (0 : Nat)))))) → b_1 ≤ (1 : Nat),
    fun _ => (0 : Nat) + (4 : Nat) ≤ (4 : Nat)] (Res.v (Value.tuple (Array.mk [el (hide (vb (List.take (256 : Nat) (unbl (unv (mapv (hvs (bl (adb (unbl (unv (mapv (hvs (bl (nb (elN a) (256 : Nat))))))) (unbl (unv (mapv (hvs (bl (nb (elN b) (256 : Nat))))))) (0 : Nat)))))))))), Value.bool ((↑(hide (List.getD (adb (nb a (256 : Nat)) (nb b (256 : Nat)) (0 : Nat)) (256 : Nat) (0 : Nat))) : Int) == (1 : Int))])))]
  := by kernel_rfl


theorem radd_ok (a b : Nat) (ha : a < top) (hb : b < top) (w : World) : Calls Try.prog 13 [el a, el b].toArray w (fun E w' => ∃ v, E = .returned v ∧ Res.ok w w' (.v (.tuple #[el (a + b), .bool (decide (top ≤ a + b))])) v ∧ Below w.heap.size w w') := by
  have hl : (nb a 256).length = (nb b 256).length := by rw [nb_length, nb_length]
  have hal : (adb (nb a 256) (nb b 256) 0).length = 257 := by rw [adb_length _ _ _ hl, nb_length]
  have hab := adb_bit (nb a 256) (nb b 256) 0 hl (by omega) (nb_bit _ _) (nb_bit _ _)
  obtain ⟨e1, e2⟩ := adb_word a b ha hb
  have hr : Res.v (Value.tuple (Array.mk [el (hide (vb (List.take (256 : Nat) (adb (nb a 256) (nb b 256) 0)))), Value.bool ((↑(hide (List.getD (adb (nb a 256) (nb b 256) 0) 256 0)) : Int) == (1 : Int))])) = Res.v (.tuple #[el (a + b), .bool (decide (top ≤ a + b))]) := by
    rw [hide_eq, hide_eq, e1, e2, el_mod]
    refine congrArg (fun x => Res.v (Value.tuple #[_, Value.bool x])) ?_
    rw [Bool.eq_iff_iff, decide_eq_true_iff]
    simp only [top] at *
    simp
    omega
  refine con_end (calls_plain hm Try.func13 (by kernel_rfl) rfl rfl 50 _ _ (run13 a b) ⟨fun _ => ⟨?_, ?_⟩, ⟨fun _ => ⟨?_, ?_⟩, ⟨fun _ => ⟨?_, ?_⟩, trivial⟩⟩⟩)
  all_goals simp only [hold_cons, hold_nil, and_true, elN_eq ha, elN_eq hb, unv_mapv', unv_mapv, hvs_eq, unbl_bl, mapv_length]
  all_goals first | exact hr | skip
  all_goals
    repeat' apply And.intro
    all_goals (intro _ _; first | exact True.intro | omega | exact mapv_get _ _ (by omega) | (repeat' apply And.intro) <;> (first | exact True.intro | omega | exact nb_length _ _ | exact nb_bit _ _ | assumption))
noncomputable def gRAdd2 : List RV → Option (Res × Prop)
  | [.v x, .v y] => match unEl x, unEl y with
    | some a, some b => some (.v (.tuple #[el (a + b), .bool (decide (top ≤ a + b))]), x = el a ∧ y = el b ∧ a < top ∧ b < top)
    | _, _ => none
  | _ => none
theorem gRAdd2_ok (rvs : List RV) (r : Res) (p : Prop) (vs : List Value) (w : World) (hg : gRAdd2 rvs = some (r, p)) (hp : p) (hv : RVs (wmem w) rvs vs) : Calls Try.prog 13 vs.toArray w (fun E w' => ∃ v, E = .returned v ∧ r.ok w w' v ∧ Below w.heap.size w w') := by
  unfold gRAdd2 at hg
  split at hg
  · split at hg
    · simp only [Option.some.injEq, Prod.mk.injEq] at hg
      obtain ⟨rfl, rfl⟩ := hg
      obtain ⟨h1, h2, h3, h4⟩ := hp
      rw [rvs2 hv, h1, h2]
      exact radd_ok _ _ h3 h4 w
    · cases hg
  · cases hg
end Go.Proofs.Ytcipmpamhffclaa
