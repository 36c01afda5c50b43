/- The document's bits: what callers see, with the lists hidden. -/
import Derived.Test.YtcipmpamhffclaaB16
import Derived.Test.YtcipmpamhffclaaV5
namespace Go.Pl
open Go.Sx
/-- A list of values that the kernel does not look into. -/
noncomputable def hvs (l : List Value) : List Value := Classical.choose (⟨l, rfl⟩ : ∃ x : List Value, x = l)
theorem hvs_eq (l : List Value) : hvs l = l := Classical.choose_spec (⟨l, rfl⟩ : ∃ x : List Value, x = l)
/-- Values, as they stand in a row. -/
def mapv (l : List Value) : List SV := l.map SV.v
theorem unv_mapv' (l : List Value) : unv (mapv l) = l := unv_mapv l
theorem vb_nb (k : Nat) : ∀ v, vb (nb v k) = v % 2 ^ k := by
  induction k with
  | zero => intro v; simp [nb, vb, Nat.mod_one]
  | succ k ih =>
    intro v
    simp only [nb, vb, ih]
    rw [Nat.pow_succ', Nat.mod_mul]
theorem vb_take (l : List Nat) (hb : ∀ b ∈ l, b ≤ 1) : ∀ k, vb (l.take k) = vb l % 2 ^ k := by
  induction l with
  | nil => intro k; simp [vb]
  | cons x r ih =>
    intro k
    cases k with
    | zero => simp [vb, Nat.mod_one]
    | succ k =>
      have hx := hb x List.mem_cons_self
      simp only [List.take_succ_cons, vb, ih (fun b h => hb b (List.mem_cons_of_mem _ h))]
      have h2 : (x + 2 * vb r) / 2 = vb r := by omega
      rw [Nat.pow_succ', Nat.mod_mul, h2]
      omega
theorem vb_lt (l : List Nat) (hb : ∀ b ∈ l, b ≤ 1) : vb l < 2 ^ l.length := by
  induction l with
  | nil => simp [vb]
  | cons x r ih =>
    have hx := hb x List.mem_cons_self
    have := ih (fun b h => hb b (List.mem_cons_of_mem _ h))
    simp only [vb, List.length_cons, Nat.pow_succ']
    omega
theorem nb_bit (v k : Nat) : ∀ b ∈ nb v k, b ≤ 1 := by
  induction k generalizing v with
  | zero => intro b hb; cases hb
  | succ k ih =>
    intro b hb
    rcases List.mem_cons.1 hb with rfl | hb
    · omega
    · exact ih _ b hb
theorem adb_vb : ∀ (xs ys : List Nat) (c : Nat), xs.length = ys.length → vb (adb xs ys c) = vb xs + vb ys + c
  | [], [], c, _ => by simp [adb, vb]
  | x :: xs, y :: ys, c, h => by
    simp only [adb, vb]
    rw [adb_vb xs ys _ (by simpa using h)]
    omega
theorem adb_bit : ∀ (xs ys : List Nat) (c : Nat), xs.length = ys.length → c ≤ 1 → (∀ b ∈ xs, b ≤ 1) → (∀ b ∈ ys, b ≤ 1) → ∀ b ∈ adb xs ys c, b ≤ 1
  | [], [], c, _, hc, _, _ => by
    intro b hb
    simp only [adb, List.mem_singleton] at hb
    omega
  | x :: xs, y :: ys, c, h, hc, hx, hy => by
    intro b hb
    have h1 := hx x List.mem_cons_self
    have h2 := hy y List.mem_cons_self
    simp only [adb] at hb
    rcases List.mem_cons.1 hb with rfl | hb
    · omega
    · exact adb_bit xs ys _ (by simpa using h) (by omega) (fun b h => hx b (List.mem_cons_of_mem _ h)) (fun b h => hy b (List.mem_cons_of_mem _ h)) b hb
theorem adb_length : ∀ (xs ys : List Nat) (c : Nat), xs.length = ys.length → (adb xs ys c).length = xs.length + 1
  | [], [], c, _ => rfl
  | x :: xs, y :: ys, c, h => by
    simp only [adb, List.length_cons]
    rw [adb_length xs ys _ (by simpa using h)]
theorem vb_split (l : List Nat) (k : Nat) (h : l.length = k + 1) (hb : ∀ b ∈ l, b ≤ 1) : vb l = vb (l.take k) + 2 ^ k * l.getD k 0 := by
  induction l generalizing k with
  | nil => cases h
  | cons x r ih =>
    cases k with
    | zero =>
      have : r = [] := List.eq_nil_of_length_eq_zero (by simpa using h)
      subst this
      simp [vb]
    | succ k =>
      have := ih k (by simpa using h) (fun b h => hb b (List.mem_cons_of_mem _ h))
      simp only [vb, List.take_succ_cons, List.getD_cons_succ, Nat.pow_succ']
      rw [this, Nat.mul_add, Nat.mul_assoc]
      omega
theorem nb_get (v : Nat) : ∀ (k i : Nat), i < k → (nb v k).getD i 0 = v / 2 ^ i % 2 := by
  intro k
  induction k generalizing v with
  | zero => intro i h; omega
  | succ k ih =>
    intro i h
    cases i with
    | zero => simp [nb]
    | succ i =>
      simp only [nb, List.getD_cons_succ]
      rw [ih (v / 2) i (by omega), Nat.div_div_eq_div_mul, ← Nat.pow_succ']
end Go.Pl
namespace Go.Proofs.Ytcipmpamhffclaa
open Go.Sx Go.Pl Go.RowKit
noncomputable def gBitsH : List RV → Option (Res × Prop)
  | [.v x] => match unEl x with
    | some a => some (.r 3 1 256 (hvs (bl (nb a 256))), x = el a)
    | _ => none
  | _ => none
theorem gBitsH_ok (rvs : List RV) (r : Res) (p : Prop) (vs : List Value) (w : World) (hg : gBitsH rvs = some (r, p)) (hp : p) (hv : RVs (wmem w) rvs vs) : Calls Try.prog 25 vs.toArray w (fun E w' => ∃ v, E = .returned v ∧ r.ok w w' v ∧ Below w.heap.size w w') := by
  unfold gBitsH at hg
  split at hg
  · rename_i x
    split at hg
    · simp only [Option.some.injEq, Prod.mk.injEq] at hg
      obtain ⟨rfl, rfl⟩ := hg
      match vs, hv with
      | [y], ⟨h1, _⟩ =>
        rw [h1, hp, hvs_eq]
        exact bits_ok _ w
    · cases hg
  · cases hg
noncomputable def gRAddH : List RV → Option (Res × Prop)
  | [.r n x, .r m y] => some (.r 3 1 (n + 1) (hvs (bl (adb (unbl x) (unbl y) 0))), m = n ∧ 0 < n ∧ n ≤ 900 ∧ x = bl (unbl x) ∧ y = bl (unbl y) ∧ (unbl x).length = n ∧ (unbl y).length = n ∧ (∀ b ∈ unbl x, b ≤ 1) ∧ (∀ b ∈ unbl y, b ≤ 1))
  | _ => none
theorem gRAddH_ok (rvs : List RV) (r : Res) (p : Prop) (vs : List Value) (w : World) (hg : gRAddH rvs = some (r, p)) (hp : p) (hv : RVs (wmem w) rvs vs) : Calls Try.prog 31 vs.toArray w (fun E w' => ∃ v, E = .returned v ∧ r.ok w w' v ∧ Below w.heap.size w w') := by
  unfold gRAddH at hg
  split at hg
  · rename_i n x m y
    simp only [Option.some.injEq, Prod.mk.injEq] at hg
    obtain ⟨rfl, rfl⟩ := hg
    obtain ⟨rfl, h1, h2, h3, h4, h5, h6, h7, h8⟩ := hp
    match vs, hv with
    | [a, b], ⟨q1, q2, _⟩ =>
      rw [h3] at q1
      rw [h4] at q2
      rw [hvs_eq]
      exact refadd_ok w a b _ _ _ h2 h1 h5 h6 h7 h8 q1 q2
  · cases hg
noncomputable def gRElemH : List RV → Option (Res × Prop)
  | [.r n x] => some (.v (el (hide (vb ((unbl x).take 256)))), 0 < n ∧ x = bl (unbl x) ∧ (unbl x).length = n ∧ (∀ b ∈ unbl x, b ≤ 1))
  | _ => none
theorem gRElemH_ok (rvs : List RV) (r : Res) (p : Prop) (vs : List Value) (w : World) (hg : gRElemH rvs = some (r, p)) (hp : p) (hv : RVs (wmem w) rvs vs) : Calls Try.prog 32 vs.toArray w (fun E w' => ∃ v, E = .returned v ∧ r.ok w w' v ∧ Below w.heap.size w w') := by
  unfold gRElemH at hg
  split at hg
  · rename_i n x
    simp only [Option.some.injEq, Prod.mk.injEq] at hg
    obtain ⟨rfl, rfl⟩ := hg
    obtain ⟨h1, h2, h3, h4⟩ := hp
    match vs, hv with
    | [a], ⟨q1, _⟩ =>
      rw [h2] at q1
      rw [hide_eq]
      exact refelem_ok w a n _ h1 h3 h4 q1
  · cases hg
noncomputable def CH : Con Try.prog := ((CG.add 25 gBitsH gBitsH_ok).add 31 gRAddH gRAddH_ok).add 32 gRElemH gRElemH_ok
end Go.Proofs.Ytcipmpamhffclaa
