/- The degrees of steps. -/
import Derived.Test.YtpghmnpbfaichaaE6
namespace Go.Pl
open Go.Sx
noncomputable def getI (cs : List Value) (a : Int) : Int := hidZ ((unIs cs).getD a.toNat 0)
noncomputable def maxI (cs : List Value) (a b : Int) : Int := hidZ (if (unIs cs).getD a.toNat 0 < (unIs cs).getD b.toNat 0 then (unIs cs).getD b.toNat 0 else (unIs cs).getD a.toNat 0)
noncomputable def sumI (cs : List Value) (a b : Int) : Int := hidZ ((unIs cs).getD a.toNat 0 + (unIs cs).getD b.toNat 0)
theorem int_at {M : Mem} {ad : Addr} (l : List Int) (a : Int) (h0 : 0 ≤ a) (h1 : a < (l.length : Int)) (h : MCells M (some ad) (intsC l)) : MCells M (some (ad.add (a.toNat * 1))) [.int .i64 (l.getD a.toNat 0)] := by
  refine MCells.at h (a.toNat * 1) _ fun j v hj => ?_
  match j, hj with
  | 0, hj =>
    simp only [List.getElem?_cons_zero, Option.some.injEq] at hj
    subst hj
    have hlt : a.toNat < l.length := by omega
    simp [intsC, hlt]
end Go.Pl
namespace Go.Proofs.Ytpghmnpbfaichaa
open Go.Sx Go.Pl Go.RowKit
theorem run117 (z0 z1 z2 z3 : Int) (d : Value) : (((xgo Try.prog X (bodyOf Try.f117) 5 K6 [] 60 [] (.nil) [.at []] ⟨argsTm 0 [.agg (Array.mk [.int .u64 z0, .int .u64 z1, .int .u64 z2, .int .u64 z3]), d], []⟩ [] []).bind (ends Try.prog Try.f117.results.toList)).bind plainE) =
  some [EndP.mk [] [] (Res.v (Value.int IntKind.i64 (0 : Int)))]
  := by kernel_rfl

theorem run118 (a b c : Int) (d : Value) : (((xgo Try.prog X (bodyOf Try.f118) 5 K6 [] 60 [] (.nil) [.at []] ⟨argsTm 0 [.agg (Array.mk [.int .i64 a, .int .i64 b, .int .i64 c]), d], []⟩ [] []).bind (ends Try.prog Try.f118.results.toList)).bind plainE) =
  some [EndP.mk [] [] (Res.v (Value.int IntKind.i64 (1 : Int)))]
  := by kernel_rfl

theorem run120 (ad : Addr) (n cap : Nat) (a x : Int) : (((xgo Try.prog X (bodyOf Try.f120) 10 K6 [] 60 [.ld (.v (.int .i64 x))] (.nil) [.at []] ⟨argsTm 0 [.agg (Array.mk [.int .i64 a]), .slice (some ad) n cap], []⟩ [] []).bind (ends Try.prog Try.f120.results.toList)).bind plainE) =
  some [EndP.mk [] [fun _ => (0 : Int) ≤ a ∧ a < (↑n : Int),
    fun _ => true = true, fun M => MCells (fun a => M a) (some (if Int.toNat a * (1 : Nat) = (0 : Nat) then ad else Addr.mk ad.1 (ad.2 + Int.toNat a * (1 : Nat)) none)) [Value.int IntKind.i64 x]] (Res.v (Value.int IntKind.i64 x))]
  := by kernel_rfl

theorem run135 (ad : Addr) (n cap : Nat) (a x z0 z1 z2 z3 : Int) : (((xgo Try.prog X (bodyOf Try.f135) 10 K6 [] 60 [.ld (.v (.int .i64 x))] (.nil) [.at []] ⟨argsTm 0 [.agg (Array.mk [.int .i64 a, .int .u64 z0, .int .u64 z1, .int .u64 z2, .int .u64 z3]), .slice (some ad) n cap], []⟩ [] []).bind (ends Try.prog Try.f135.results.toList)).bind plainE) =
  some [EndP.mk [] [fun _ => (0 : Int) ≤ a ∧ a < (↑n : Int),
    fun _ => true = true, fun M => MCells (fun a => M a) (some (if Int.toNat a * (1 : Nat) = (0 : Nat) then ad else Addr.mk ad.1 (ad.2 + Int.toNat a * (1 : Nat)) none)) [Value.int IntKind.i64 x]] (Res.v (Value.int IntKind.i64 x))]
  := by kernel_rfl

theorem run124 (ad : Addr) (n cap : Nat) (a b x y : Int) : (((xgo Try.prog X (bodyOf Try.f124) 16 K6 [] 60 [.ld (.v (.int .i64 x)), .ld (.v (.int .i64 y))] (.nil) [.at []] ⟨argsTm 0 [.agg (Array.mk [.int .i64 a, .int .i64 b]), .slice (some ad) n cap], []⟩ [] []).bind (ends Try.prog Try.f124.results.toList)).bind plainE) =
  some [EndP.mk [] [fun _ => (0 : Int) ≤ a ∧ a < (↑n : Int),
    fun _ => true = true, fun M => MCells (fun a => M a) (some (if Int.toNat a * (1 : Nat) = (0 : Nat) then ad else Addr.mk ad.1 (ad.2 + Int.toNat a * (1 : Nat)) none)) [Value.int IntKind.i64 x],
    fun _ => (0 : Int) ≤ b ∧ b < (↑n : Int),
    fun _ => true = true, fun M => MCells (fun a => M a) (some (if Int.toNat b * (1 : Nat) = (0 : Nat) then ad else Addr.mk ad.1 (ad.2 + Int.toNat b * (1 : Nat)) none)) [Value.int IntKind.i64 y]] (Res.v (Value.int IntKind.i64 (if x < y then y else x)))]
  := by kernel_rfl

theorem run127 (ad : Addr) (n cap : Nat) (a b x y : Int) : (((xgo Try.prog X (bodyOf Try.f127) 16 K6 [] 60 [.ld (.v (.int .i64 x)), .ld (.v (.int .i64 y))] (.nil) [.at []] ⟨argsTm 0 [.agg (Array.mk [.int .i64 a, .int .i64 b]), .slice (some ad) n cap], []⟩ [] []).bind (ends Try.prog Try.f127.results.toList)).bind plainE) =
  some [EndP.mk [] [fun _ => (0 : Int) ≤ a ∧ a < (↑n : Int),
    fun _ => true = true, fun M => MCells (fun a => M a) (some (if Int.toNat a * (1 : Nat) = (0 : Nat) then ad else Addr.mk ad.1 (ad.2 + Int.toNat a * (1 : Nat)) none)) [Value.int IntKind.i64 x],
    fun _ => (0 : Int) ≤ b ∧ b < (↑n : Int),
    fun _ => true = true, fun M => MCells (fun a => M a) (some (if Int.toNat b * (1 : Nat) = (0 : Nat) then ad else Addr.mk ad.1 (ad.2 + Int.toNat b * (1 : Nat)) none)) [Value.int IntKind.i64 y]] (Res.v (Value.int IntKind.i64 (IntKind.wrap IntKind.i64 (x + y))))]
  := by kernel_rfl

theorem rvs_two {M : Mem} {x : Value} {r : RV} {vs : List Value} (h : RVs M [.v x, r] vs) : ∃ d, vs = [x, d] := by
  match vs, h with
  | [y], ⟨_, h2⟩ => cases r <;> exact h2.elim
  | [y, d], ⟨h1, _⟩ => exact ⟨d, by rw [h1]⟩
  | y :: d :: e :: r', ⟨_, h2⟩ =>
    cases r with
    | v x => exact h2.2.elim
    | r n cs => exact h2.2.elim
    | c x d => exact h2.2.elim
    | b cs d => exact h2.2.elim
    | k f caps => exact h2.2.elim
def gDegC : List RV → Option (Res × Prop)
  | [.v (.agg ⟨[.int .u64 _, .int .u64 _, .int .u64 _, .int .u64 _]⟩), _] => some (.v (.int .i64 0), True)
  | _ => none
theorem gDegC_ok (rvs : List RV) (r : Res) (p : Prop) (vs : List Value) (w : World) (hg : gDegC rvs = some (r, p)) (hp : p) (hv : RVs (wmem w) rvs vs) : Calls Try.prog 117 vs.toArray w (fun E w' => ∃ v, E = .returned v ∧ r.ok w w' v ∧ Below w.heap.size w w') := by
  unfold gDegC at hg
  split at hg
  · simp only [Option.some.injEq, Prod.mk.injEq] at hg
    obtain ⟨rfl, rfl⟩ := hg
    obtain ⟨d, rfl⟩ := rvs_two hv
    refine con_end (calls_plain hm Try.func117 (by kernel_rfl) rfl rfl 60 _ _ (run117 _ _ _ _ _) ⟨fun _ => ⟨?_, rfl⟩, trivial⟩)
    first | (simp only [hold_nil]; done) | (simp only [hold_cons, hold_nil, and_true]; intro _ _; first | trivial | omega)
  · cases hg
def gDegQ : List RV → Option (Res × Prop)
  | [.v (.agg ⟨[.int .i64 _, .int .i64 _, .int .i64 _]⟩), _] => some (.v (.int .i64 1), True)
  | _ => none
theorem gDegQ_ok (rvs : List RV) (r : Res) (p : Prop) (vs : List Value) (w : World) (hg : gDegQ rvs = some (r, p)) (hp : p) (hv : RVs (wmem w) rvs vs) : Calls Try.prog 118 vs.toArray w (fun E w' => ∃ v, E = .returned v ∧ r.ok w w' v ∧ Below w.heap.size w w') := by
  unfold gDegQ at hg
  split at hg
  · simp only [Option.some.injEq, Prod.mk.injEq] at hg
    obtain ⟨rfl, rfl⟩ := hg
    obtain ⟨d, rfl⟩ := rvs_two hv
    refine con_end (calls_plain hm Try.func118 (by kernel_rfl) rfl rfl 60 _ _ (run118 _ _ _ _) ⟨fun _ => ⟨?_, rfl⟩, trivial⟩)
    first | (simp only [hold_nil]; done) | (simp only [hold_cons, hold_nil, and_true]; intro _ _; first | trivial | omega)
  · cases hg
noncomputable def gDegN : List RV → Option (Res × Prop)
  | [.v (.agg ⟨[.int .i64 a]⟩), .r n cs] => some (.v (.int .i64 (getI cs a)), cs = intsC (unIs cs) ∧ (unIs cs).length = n ∧ 0 ≤ a ∧ a < (n : Int))
  | _ => none
theorem gDegN_ok (rvs : List RV) (r : Res) (p : Prop) (vs : List Value) (w : World) (hg : gDegN rvs = some (r, p)) (hp : p) (hv : RVs (wmem w) rvs vs) : Calls Try.prog 120 vs.toArray w (fun E w' => ∃ v, E = .returned v ∧ r.ok w w' v ∧ Below w.heap.size w w') := by
  unfold gDegN at hg
  split at hg
  · rename_i a n cs
    simp only [Option.some.injEq, Prod.mk.injEq] at hg
    obtain ⟨rfl, rfl⟩ := hg
    obtain ⟨hc, hn, h0, hl⟩ := hp
    match vs, hv with
    | [y, z], ⟨h1, ⟨oa, cap, h2, h3⟩, _⟩ =>
      rw [h1, h2]
      have hne : MCells (wmem w) oa (intsC (unIs cs)) := by
        rw [← hc]
        rcases h3 with h | h
        · rw [h] at hn; simp [unIs] at hn; omega
        · exact h
      obtain ⟨ad, rfl, hq⟩ := hne
      have ha := int_at (unIs cs) a h0 (by omega) ⟨ad, rfl, hq⟩
      refine con_end (calls_plain hm Try.func120 (by kernel_rfl) rfl rfl 60 _ _ (run120 ad n cap a ((unIs cs).getD a.toNat 0)) ⟨fun _ => ⟨?_, ?_⟩, trivial⟩)
      · simp only [hold_cons, hold_nil, and_true]
        exact ⟨fun _ _ => ⟨h0, hl⟩, fun _ _ => trivial, hold_cells ha⟩
      · rw [getI, hidZ_eq]
  · cases hg
noncomputable def gDegS : List RV → Option (Res × Prop)
  | [.v (.agg ⟨[.int .i64 a, .int .u64 _, .int .u64 _, .int .u64 _, .int .u64 _]⟩), .r n cs] => some (.v (.int .i64 (getI cs a)), cs = intsC (unIs cs) ∧ (unIs cs).length = n ∧ 0 ≤ a ∧ a < (n : Int))
  | _ => none
theorem gDegS_ok (rvs : List RV) (r : Res) (p : Prop) (vs : List Value) (w : World) (hg : gDegS rvs = some (r, p)) (hp : p) (hv : RVs (wmem w) rvs vs) : Calls Try.prog 135 vs.toArray w (fun E w' => ∃ v, E = .returned v ∧ r.ok w w' v ∧ Below w.heap.size w w') := by
  unfold gDegS at hg
  split at hg
  · rename_i a z0 z1 z2 z3 n cs
    simp only [Option.some.injEq, Prod.mk.injEq] at hg
    obtain ⟨rfl, rfl⟩ := hg
    obtain ⟨hc, hn, h0, hl⟩ := hp
    match vs, hv with
    | [y, z], ⟨h1, ⟨oa, cap, h2, h3⟩, _⟩ =>
      rw [h1, h2]
      have hne : MCells (wmem w) oa (intsC (unIs cs)) := by
        rw [← hc]
        rcases h3 with h | h
        · rw [h] at hn; simp [unIs] at hn; omega
        · exact h
      obtain ⟨ad, rfl, hq⟩ := hne
      have ha := int_at (unIs cs) a h0 (by omega) ⟨ad, rfl, hq⟩
      refine con_end (calls_plain hm Try.func135 (by kernel_rfl) rfl rfl 60 _ _ (run135 ad n cap a ((unIs cs).getD a.toNat 0) z0 z1 z2 z3) ⟨fun _ => ⟨?_, ?_⟩, trivial⟩)
      · simp only [hold_cons, hold_nil, and_true]
        exact ⟨fun _ _ => ⟨h0, hl⟩, fun _ _ => trivial, hold_cells ha⟩
      · rw [getI, hidZ_eq]
  · cases hg
noncomputable def gDegA : List RV → Option (Res × Prop)
  | [.v (.agg ⟨[.int .i64 a, .int .i64 b]⟩), .r n cs] => some (.v (.int .i64 (maxI cs a b)), cs = intsC (unIs cs) ∧ (unIs cs).length = n ∧ 0 ≤ a ∧ a < (n : Int) ∧ 0 ≤ b ∧ b < (n : Int))
  | _ => none
theorem gDegA_ok (rvs : List RV) (r : Res) (p : Prop) (vs : List Value) (w : World) (hg : gDegA rvs = some (r, p)) (hp : p) (hv : RVs (wmem w) rvs vs) : Calls Try.prog 124 vs.toArray w (fun E w' => ∃ v, E = .returned v ∧ r.ok w w' v ∧ Below w.heap.size w w') := by
  unfold gDegA at hg
  split at hg
  · rename_i a b n cs
    simp only [Option.some.injEq, Prod.mk.injEq] at hg
    obtain ⟨rfl, rfl⟩ := hg
    obtain ⟨hc, hn, h0, hl, k0, kl⟩ := hp
    match vs, hv with
    | [y, z], ⟨h1, ⟨oa, cap, h2, h3⟩, _⟩ =>
      rw [h1, h2]
      have hne : MCells (wmem w) oa (intsC (unIs cs)) := by
        rw [← hc]
        rcases h3 with h | h
        · rw [h] at hn; simp [unIs] at hn; omega
        · exact h
      obtain ⟨ad, rfl, hq⟩ := hne
      have ha := int_at (unIs cs) a h0 (by omega) ⟨ad, rfl, hq⟩
      have hb := int_at (unIs cs) b k0 (by omega) ⟨ad, rfl, hq⟩
      refine con_end (calls_plain hm Try.func124 (by kernel_rfl) rfl rfl 60 _ _ (run124 ad n cap a b ((unIs cs).getD a.toNat 0) ((unIs cs).getD b.toNat 0)) ⟨fun _ => ⟨?_, ?_⟩, trivial⟩)
      · simp only [hold_cons, hold_nil, and_true]
        exact ⟨fun _ _ => ⟨h0, hl⟩, fun _ _ => trivial, hold_cells ha, fun _ _ => ⟨k0, kl⟩, fun _ _ => trivial, hold_cells hb⟩
      · rw [maxI, hidZ_eq]
  · cases hg
noncomputable def gDegM : List RV → Option (Res × Prop)
  | [.v (.agg ⟨[.int .i64 a, .int .i64 b]⟩), .r n cs] => some (.v (.int .i64 (sumI cs a b)), cs = intsC (unIs cs) ∧ (unIs cs).length = n ∧ 0 ≤ a ∧ a < (n : Int) ∧ 0 ≤ b ∧ b < (n : Int) ∧ ∀ z ∈ unIs cs, 0 ≤ z ∧ z ≤ 1000)
  | _ => none
theorem gDegM_ok (rvs : List RV) (r : Res) (p : Prop) (vs : List Value) (w : World) (hg : gDegM rvs = some (r, p)) (hp : p) (hv : RVs (wmem w) rvs vs) : Calls Try.prog 127 vs.toArray w (fun E w' => ∃ v, E = .returned v ∧ r.ok w w' v ∧ Below w.heap.size w w') := by
  unfold gDegM at hg
  split at hg
  · rename_i a b n cs
    simp only [Option.some.injEq, Prod.mk.injEq] at hg
    obtain ⟨rfl, rfl⟩ := hg
    obtain ⟨hc, hn, h0, hl, k0, kl, hz⟩ := hp
    match vs, hv with
    | [y, z], ⟨h1, ⟨oa, cap, h2, h3⟩, _⟩ =>
      rw [h1, h2]
      have hne : MCells (wmem w) oa (intsC (unIs cs)) := by
        rw [← hc]
        rcases h3 with h | h
        · rw [h] at hn; simp [unIs] at hn; omega
        · exact h
      obtain ⟨ad, rfl, hq⟩ := hne
      have ha := int_at (unIs cs) a h0 (by omega) ⟨ad, rfl, hq⟩
      have hb := int_at (unIs cs) b k0 (by omega) ⟨ad, rfl, hq⟩
      refine con_end (calls_plain hm Try.func127 (by kernel_rfl) rfl rfl 60 _ _ (run127 ad n cap a b ((unIs cs).getD a.toNat 0) ((unIs cs).getD b.toNat 0)) ⟨fun _ => ⟨?_, ?_⟩, trivial⟩)
      · simp only [hold_cons, hold_nil, and_true]
        exact ⟨fun _ _ => ⟨h0, hl⟩, fun _ _ => trivial, hold_cells ha, fun _ _ => ⟨k0, kl⟩, fun _ _ => trivial, hold_cells hb⟩
      · have g1 : ∀ i : Nat, i < (unIs cs).length → 0 ≤ (unIs cs).getD i 0 ∧ (unIs cs).getD i 0 ≤ 1000 := fun i hi => by
          have := hz ((unIs cs)[i]) (List.getElem_mem hi)
          rw [List.getD_eq_getElem?_getD, List.getElem?_eq_getElem hi]
          exact this
        have g2 := g1 a.toNat (by omega)
        have g3 := g1 b.toNat (by omega)
        rw [sumI, hidZ_eq]
        generalize (unIs cs).getD a.toNat 0 = u at *
        generalize (unIs cs).getD b.toNat 0 = v at *
        obtain ⟨m, rfl⟩ := Int.eq_ofNat_of_zero_le g2.1
        obtain ⟨k, rfl⟩ := Int.eq_ofNat_of_zero_le g3.1
        rw [show ((m : Nat) : Int) + ((k : Nat) : Int) = ((m + k : Nat) : Int) by omega, wrap_i64 _ (by omega)]
  · cases hg
noncomputable def K7 : Con Try.prog := (((((K6.add 117 gDegC gDegC_ok).add 118 gDegQ gDegQ_ok).add 120 gDegN gDegN_ok).add 135 gDegS gDegS_ok).add 124 gDegA gDegA_ok).add 127 gDegM gDegM_ok
end Go.Proofs.Ytpghmnpbfaichaa

namespace Go.Pl
open Go.Sx
theorem ordN_at : ∀ (pre l : List Nd) (x : Nd) (i : Nat), ordN i (pre ++ x :: l) = true → okN (i + pre.length) x = true
  | [], l, x, i, h => by
    rw [List.nil_append, ordN, Bool.and_eq_true] at h
    simpa using h.1
  | y :: r, l, x, i, h => by
    rw [List.cons_append, ordN, Bool.and_eq_true] at h
    have := ordN_at r l x (i + 1) h.2
    rw [List.length_cons, show i + (r.length + 1) = i + 1 + r.length by omega]
    exact this
theorem okN_uses {k : Nat} {x : Nd} (h : okN k x = true) : ∀ j ∈ usesN x, 0 ≤ j ∧ j < (k : Int) := by
  rw [okN, Bool.and_eq_true, List.all_eq_true] at h
  exact fun j hj => of_decide_eq_true (h.2 j hj)
theorem degN_c (out : List Int) {x : Nd} (h : x.op = 1) : degN out x = if 1000 < (0 : Int) then 1000 else (0 : Int) := by
  have e : degD out x = (0 : Int) := by
    unfold degD
    rw [if_neg (by omega), if_neg (by omega), if_neg (by omega), if_neg (by rw [qryN]; simp; omega)]
  rw [degN, e]
theorem degN_q (out : List Int) {x : Nd} (h : 2 ≤ x.op ∧ x.op ≤ 4) : degN out x = if 1000 < (1 : Int) then 1000 else (1 : Int) := by
  have e : degD out x = (1 : Int) := by
    unfold degD
    rw [if_neg (by omega), if_neg (by omega), if_neg (by omega), if_pos (by rw [qryN]; exact decide_eq_true (by omega))]
  rw [degN, e]
theorem degN_n (out : List Int) {x : Nd} (h : x.op = 5) : degN out x = if 1000 < out.getD x.a.toNat 0 then 1000 else out.getD x.a.toNat 0 := by
  have e : degD out x = out.getD x.a.toNat 0 := by
    unfold degD
    rw [if_pos (by omega)]
  rw [degN, e]
theorem degN_a (out : List Int) {x : Nd} (h : x.op = 6) : degN out x = if 1000 < (if out.getD x.a.toNat 0 < out.getD x.b.toNat 0 then out.getD x.b.toNat 0 else out.getD x.a.toNat 0) then 1000 else (if out.getD x.a.toNat 0 < out.getD x.b.toNat 0 then out.getD x.b.toNat 0 else out.getD x.a.toNat 0) := by
  have e : degD out x = (if out.getD x.a.toNat 0 < out.getD x.b.toNat 0 then out.getD x.b.toNat 0 else out.getD x.a.toNat 0) := by
    unfold degD
    rw [if_neg (by omega), if_pos (by omega)]
  rw [degN, e]
theorem degN_m (out : List Int) {x : Nd} (h : x.op = 7) : degN out x = if 1000 < (out.getD x.a.toNat 0 + out.getD x.b.toNat 0) then 1000 else (out.getD x.a.toNat 0 + out.getD x.b.toNat 0) := by
  have e : degD out x = (out.getD x.a.toNat 0 + out.getD x.b.toNat 0) := by
    unfold degD
    rw [if_neg (by omega), if_neg (by omega), if_pos (by omega)]
  rw [degN, e]
theorem degN_s (out : List Int) {x : Nd} (h : x.op = 8) : degN out x = if 1000 < out.getD x.a.toNat 0 then 1000 else out.getD x.a.toNat 0 := by
  have e : degD out x = out.getD x.a.toNat 0 := by
    unfold degD
    rw [if_pos (by omega)]
  rw [degN, e]
theorem getD_bound {out : List Int} (h : ∀ z ∈ out, 0 ≤ z ∧ z ≤ 1000) (i : Nat) : 0 ≤ out.getD i 0 ∧ out.getD i 0 ≤ 1000 := by
  rw [List.getD_eq_getElem?_getD]
  cases hi : out[i]? with
  | none => simp
  | some z => exact h z (List.mem_of_getElem? hi)
theorem degN_bound {out : List Int} (h : ∀ z ∈ out, 0 ≤ z ∧ z ≤ 1000) (x : Nd) : 0 ≤ degN out x ∧ degN out x ≤ 1000 := by
  have h1 := getD_bound h x.a.toNat
  have h2 := getD_bound h x.b.toNat
  unfold degN degD
  generalize out.getD x.a.toNat 0 = u at *
  generalize out.getD x.b.toNat 0 = v at *
  repeat' split
  all_goals omega
theorem degsN_length : ∀ (l : List Nd) (out : List Int), (degsN out l).length = out.length + l.length
  | [], out => by simp [degsN]
  | x :: r, out => by rw [degsN, degsN_length r]; simp; omega
theorem intsC_snoc (l : List Int) (z : Int) : intsC (l ++ [z]) = intsC l ++ [.int .i64 z] := by simp [intsC]
theorem intsC_length (l : List Int) : (intsC l).length = l.length := by simp [intsC]
noncomputable def dgL (cs : List Value) : List Value := intsC (degrees (unNds cs))
noncomputable def dgN (cs : List Value) : Nat := hide (degrees (unNds cs)).length
end Go.Pl
namespace Go.Proofs.Ytpghmnpbfaichaa
open Go.Sx Go.Pl Go.RowKit
theorem dgS (oa : Option Addr) (n cap : Nat) (l : List Nd) : ((xgo Try.prog X (bodyOf Try.f24) 28 K7 [] 60 [.lx (nodesC l)] ((.nil)) [.at []] ⟨argsTm 0 [.slice oa n cap], []⟩ [] []).map (trims [15, 14, 13, 5, 2])) =
  some [Leaf2.mk [] [fun M => nodesC l = [] ∨ MCells (fun a => M a) oa (nodesC l),
    fun _ => nodesC l = nodesC (unNds (nodesC l)) ∧ List.length (unNds (nodesC l)) = n ∧ n ≤ (4398046511104 : Nat)] [It.at [(0 : Nat), (1 : Nat), (0 : Nat), (1 : Nat), (1 : Nat), (1 : Nat)], It.blk (0 : Nat), It.at [(1 : Nat), (1 : Nat), (1 : Nat), (1 : Nat)]] (St.mk [((15 : Nat), SV.v (Value.int IntKind.i64 (0 : Int))), ((14 : Nat), SV.v (Value.int IntKind.i64 (↑(stN (nodesC l)) : Int))), ((13 : Nat), SV.o (0 : Nat)), ((5 : Nat), SV.v (Value.slice none (0 : Nat) (0 : Nat))), ((2 : Nat), SV.v (Value.slice none (0 : Nat) (0 : Nat)))] [HO.row (82 : Nat) (1 : Nat) (stN (nodesC l)) (mapv (stC (nodesC l)))])]
  := by kernel_rfl

theorem dg0c (N M : Nat) (cs : List Value) (z0 z1 z2 z3 : Int) (kt : List It) : ((xgo Try.prog X (bodyOf Try.f24) 28 K7 [] 60 [.t, .lo 0 (.v (.iface 102 (.agg #[.int .u64 z0, .int .u64 z1, .int .u64 z2, .int .u64 z3])))] ((.nil)) (.at [0,0,1,0,1,1,1] :: .rnd [0,0,1,0,1,1,1] (M + 1) :: kt) ⟨[(15, .v (.int .i64 0)), (14, .v (.int .i64 (N : Int))), (13, .o 0), (5, .v (.slice none 0 0)), (2, .v (.slice none 0 0))], [.row 82 1 N (mapv cs)]⟩ [] []).map (trims [15, 14, 13, 5, 2])) =
  some [Leaf2.mk [] [fun _ => decide ((0 : Int) < (↑N : Int)) = true,
    fun _ => (0 : Int) ≤ (0 : Int) ∧ (0 : Int) < (↑N : Int),
    fun _ => (0 : Nat) < List.length (mapv cs),
    fun _ => (mapv cs)[(0 : Nat)]? = some (SV.v (Value.iface (102 : Nat) (Value.agg (Array.mk [Value.int IntKind.u64 z0, Value.int IntKind.u64 z1, Value.int IntKind.u64 z2, Value.int IntKind.u64 z3])))),
    fun _ => True,
    fun _ => (8 : Nat) ≤ (140737488355328 : Nat) ∧ (1 : Nat) ≤ (140737488355328 : Nat)] (It.rnd [(0 : Nat), (0 : Nat), (1 : Nat), (0 : Nat), (1 : Nat), (1 : Nat), (1 : Nat)] (M + (1 : Nat)) :: kt) (St.mk [((15 : Nat), SV.v (Value.int IntKind.i64 (1 : Int))), ((14 : Nat), SV.v (Value.int IntKind.i64 (↑N : Int))), ((13 : Nat), SV.o (0 : Nat)), ((5 : Nat), SV.o (2 : Nat)), ((2 : Nat), SV.v (Value.slice none (0 : Nat) (0 : Nat)))] [HO.row (82 : Nat) (1 : Nat) N (mapv cs), HO.row (3 : Nat) (1 : Nat) (1 : Nat) [SV.v (Value.int IntKind.i64 (0 : Int))], HO.row (3 : Nat) (1 : Nat) (1 : Nat) [SV.v (Value.int IntKind.i64 (0 : Int))]])]
  := by kernel_rfl

theorem dg0q (N M : Nat) (cs : List Value) (o x y : Int) (kt : List It) : ((xgo Try.prog X (bodyOf Try.f24) 28 K7 [] 60 [.t, .lo 0 (.v (.iface 103 (.agg #[.int .i64 o, .int .i64 x, .int .i64 y])))] ((.nil)) (.at [0,0,1,0,1,1,1] :: .rnd [0,0,1,0,1,1,1] (M + 1) :: kt) ⟨[(15, .v (.int .i64 0)), (14, .v (.int .i64 (N : Int))), (13, .o 0), (5, .v (.slice none 0 0)), (2, .v (.slice none 0 0))], [.row 82 1 N (mapv cs)]⟩ [] []).map (trims [15, 14, 13, 5, 2])) =
  some [Leaf2.mk [] [fun _ => decide ((0 : Int) < (↑N : Int)) = true,
    fun _ => (0 : Int) ≤ (0 : Int) ∧ (0 : Int) < (↑N : Int),
    fun _ => (0 : Nat) < List.length (mapv cs),
    fun _ => (mapv cs)[(0 : Nat)]? = some (SV.v (Value.iface (103 : Nat) (Value.agg (Array.mk [Value.int IntKind.i64 o, Value.int IntKind.i64 x, Value.int IntKind.i64 y])))),
    fun _ => True,
    fun _ => (8 : Nat) ≤ (140737488355328 : Nat) ∧ (1 : Nat) ≤ (140737488355328 : Nat)] (It.rnd [(0 : Nat), (0 : Nat), (1 : Nat), (0 : Nat), (1 : Nat), (1 : Nat), (1 : Nat)] (M + (1 : Nat)) :: kt) (St.mk [((15 : Nat), SV.v (Value.int IntKind.i64 (1 : Int))), ((14 : Nat), SV.v (Value.int IntKind.i64 (↑N : Int))), ((13 : Nat), SV.o (0 : Nat)), ((5 : Nat), SV.o (2 : Nat)), ((2 : Nat), SV.v (Value.slice none (0 : Nat) (0 : Nat)))] [HO.row (82 : Nat) (1 : Nat) N (mapv cs), HO.row (3 : Nat) (1 : Nat) (1 : Nat) [SV.v (Value.int IntKind.i64 (1 : Int))], HO.row (3 : Nat) (1 : Nat) (1 : Nat) [SV.v (Value.int IntKind.i64 (1 : Int))]])]
  := by kernel_rfl

theorem dg1c (N k M : Nat) (cs ds : List Value) (z0 z1 z2 z3 : Int) (kt : List It) : ((xgo Try.prog X (bodyOf Try.f24) 28 K7 [] 60 [.t, .lo 0 (.v (.iface 102 (.agg #[.int .u64 z0, .int .u64 z1, .int .u64 z2, .int .u64 z3])))] ((.nil)) (.at [0,0,1,0,1,1,1] :: .rnd [0,0,1,0,1,1,1] (M + 1) :: kt) ⟨[(15, .v (.int .i64 (k : Int))), (14, .v (.int .i64 (N : Int))), (13, .o 0), (5, .o 1), (2, .v (.slice none 0 0))], [.row 82 1 N (mapv cs), .row 3 1 k (mapv ds)]⟩ [] []).map (trims [15, 14, 13, 5, 2])) =
  some [Leaf2.mk [] [fun _ => decide ((↑k : Int) < (↑N : Int)) = true,
    fun _ => (0 : Int) ≤ (↑k : Int) ∧ (↑k : Int) < (↑N : Int),
    fun _ => (0 : Nat) < List.length (mapv cs),
    fun _ => (mapv cs)[Int.toNat (↑k : Int) * (1 : Nat)]? = some (SV.v (Value.iface (102 : Nat) (Value.agg (Array.mk [Value.int IntKind.u64 z0, Value.int IntKind.u64 z1, Value.int IntKind.u64 z2, Value.int IntKind.u64 z3])))),
    fun _ => mapv ds = mapv (unv (mapv ds)),
    fun _ => True,
    fun _ => (k + (1 : Nat)) * (8 : Nat) ≤ (140737488355328 : Nat) ∧ k + (1 : Nat) ≤ (140737488355328 : Nat)] (It.rnd [(0 : Nat), (0 : Nat), (1 : Nat), (0 : Nat), (1 : Nat), (1 : Nat), (1 : Nat)] (M + (1 : Nat)) :: kt) (St.mk [((15 : Nat), SV.v (Value.int IntKind.i64 (IntKind.wrap IntKind.i64 ((↑k : Int) + (1 : Int))))), ((14 : Nat), SV.v (Value.int IntKind.i64 (↑N : Int))), ((13 : Nat), SV.o (0 : Nat)), ((5 : Nat), SV.o (3 : Nat)), ((2 : Nat), SV.v (Value.slice none (0 : Nat) (0 : Nat)))] [HO.row (82 : Nat) (1 : Nat) N (mapv cs), HO.gone, HO.row (3 : Nat) (1 : Nat) (1 : Nat) [SV.v (Value.int IntKind.i64 (0 : Int))], HO.row (3 : Nat) (1 : Nat) (k + (1 : Nat)) (mapv ds ++ [SV.v (Value.int IntKind.i64 (0 : Int))])])]
  := by kernel_rfl

theorem dg1q (N k M : Nat) (cs ds : List Value) (o x y : Int) (kt : List It) : ((xgo Try.prog X (bodyOf Try.f24) 28 K7 [] 60 [.t, .lo 0 (.v (.iface 103 (.agg #[.int .i64 o, .int .i64 x, .int .i64 y])))] ((.nil)) (.at [0,0,1,0,1,1,1] :: .rnd [0,0,1,0,1,1,1] (M + 1) :: kt) ⟨[(15, .v (.int .i64 (k : Int))), (14, .v (.int .i64 (N : Int))), (13, .o 0), (5, .o 1), (2, .v (.slice none 0 0))], [.row 82 1 N (mapv cs), .row 3 1 k (mapv ds)]⟩ [] []).map (trims [15, 14, 13, 5, 2])) =
  some [Leaf2.mk [] [fun _ => decide ((↑k : Int) < (↑N : Int)) = true,
    fun _ => (0 : Int) ≤ (↑k : Int) ∧ (↑k : Int) < (↑N : Int),
    fun _ => (0 : Nat) < List.length (mapv cs),
    fun _ => (mapv cs)[Int.toNat (↑k : Int) * (1 : Nat)]? = some (SV.v (Value.iface (103 : Nat) (Value.agg (Array.mk [Value.int IntKind.i64 o, Value.int IntKind.i64 x, Value.int IntKind.i64 y])))),
    fun _ => mapv ds = mapv (unv (mapv ds)),
    fun _ => True,
    fun _ => (k + (1 : Nat)) * (8 : Nat) ≤ (140737488355328 : Nat) ∧ k + (1 : Nat) ≤ (140737488355328 : Nat)] (It.rnd [(0 : Nat), (0 : Nat), (1 : Nat), (0 : Nat), (1 : Nat), (1 : Nat), (1 : Nat)] (M + (1 : Nat)) :: kt) (St.mk [((15 : Nat), SV.v (Value.int IntKind.i64 (IntKind.wrap IntKind.i64 ((↑k : Int) + (1 : Int))))), ((14 : Nat), SV.v (Value.int IntKind.i64 (↑N : Int))), ((13 : Nat), SV.o (0 : Nat)), ((5 : Nat), SV.o (3 : Nat)), ((2 : Nat), SV.v (Value.slice none (0 : Nat) (0 : Nat)))] [HO.row (82 : Nat) (1 : Nat) N (mapv cs), HO.gone, HO.row (3 : Nat) (1 : Nat) (1 : Nat) [SV.v (Value.int IntKind.i64 (1 : Int))], HO.row (3 : Nat) (1 : Nat) (k + (1 : Nat)) (mapv ds ++ [SV.v (Value.int IntKind.i64 (1 : Int))])])]
  := by kernel_rfl

theorem dg1n (N k M : Nat) (cs ds : List Value) (x : Int) (kt : List It) : ((xgo Try.prog X (bodyOf Try.f24) 28 K7 [] 60 [.t, .lo 0 (.v (.iface 129 (.agg #[.int .i64 x])))] ((.nil)) (.at [0,0,1,0,1,1,1] :: .rnd [0,0,1,0,1,1,1] (M + 1) :: kt) ⟨[(15, .v (.int .i64 (k : Int))), (14, .v (.int .i64 (N : Int))), (13, .o 0), (5, .o 1), (2, .v (.slice none 0 0))], [.row 82 1 N (mapv cs), .row 3 1 k (mapv ds)]⟩ [] []).map (trims [15, 14, 13, 5, 2])) =
  some [Leaf2.mk [] [fun _ => decide ((↑k : Int) < (↑N : Int)) = true,
    fun _ => (0 : Int) ≤ (↑k : Int) ∧ (↑k : Int) < (↑N : Int),
    fun _ => (0 : Nat) < List.length (mapv cs),
    fun _ => (mapv cs)[Int.toNat (↑k : Int) * (1 : Nat)]? = some (SV.v (Value.iface (129 : Nat) (Value.agg (Array.mk [Value.int IntKind.i64 x])))),
    fun _ => mapv ds = mapv (unv (mapv ds)),
    fun _ => unv (mapv ds) = intsC (unIs (unv (mapv ds))) ∧ List.length (unIs (unv (mapv ds))) = k ∧ (0 : Int) ≤ x ∧ x < (↑k : Int),
    fun _ => (k + (1 : Nat)) * (8 : Nat) ≤ (140737488355328 : Nat) ∧ k + (1 : Nat) ≤ (140737488355328 : Nat)] (It.rnd [(0 : Nat), (0 : Nat), (1 : Nat), (0 : Nat), (1 : Nat), (1 : Nat), (1 : Nat)] (M + (1 : Nat)) :: kt) (St.mk [((15 : Nat), SV.v (Value.int IntKind.i64 (IntKind.wrap IntKind.i64 ((↑k : Int) + (1 : Int))))), ((14 : Nat), SV.v (Value.int IntKind.i64 (↑N : Int))), ((13 : Nat), SV.o (0 : Nat)), ((5 : Nat), SV.o (3 : Nat)), ((2 : Nat), SV.v (Value.slice none (0 : Nat) (0 : Nat)))] [HO.row (82 : Nat) (1 : Nat) N (mapv cs), HO.gone, HO.row (3 : Nat) (1 : Nat) (1 : Nat) [SV.v (Value.int IntKind.i64 (if (1000 : Int) < getI (unv (mapv ds)) x then (1000 : Int) else getI (unv (mapv ds)) x))], HO.row (3 : Nat) (1 : Nat) (k + (1 : Nat)) (mapv ds ++ [SV.v (Value.int IntKind.i64 (if (1000 : Int) < getI (unv (mapv ds)) x then (1000 : Int) else getI (unv (mapv ds)) x))])])]
  := by kernel_rfl

theorem dg1a (N k M : Nat) (cs ds : List Value) (x y : Int) (kt : List It) : ((xgo Try.prog X (bodyOf Try.f24) 28 K7 [] 60 [.t, .lo 0 (.v (.iface 131 (.agg #[.int .i64 x, .int .i64 y])))] ((.nil)) (.at [0,0,1,0,1,1,1] :: .rnd [0,0,1,0,1,1,1] (M + 1) :: kt) ⟨[(15, .v (.int .i64 (k : Int))), (14, .v (.int .i64 (N : Int))), (13, .o 0), (5, .o 1), (2, .v (.slice none 0 0))], [.row 82 1 N (mapv cs), .row 3 1 k (mapv ds)]⟩ [] []).map (trims [15, 14, 13, 5, 2])) =
  some [Leaf2.mk [] [fun _ => decide ((↑k : Int) < (↑N : Int)) = true,
    fun _ => (0 : Int) ≤ (↑k : Int) ∧ (↑k : Int) < (↑N : Int),
    fun _ => (0 : Nat) < List.length (mapv cs),
    fun _ => (mapv cs)[Int.toNat (↑k : Int) * (1 : Nat)]? = some (SV.v (Value.iface (131 : Nat) (Value.agg (Array.mk [Value.int IntKind.i64 x, Value.int IntKind.i64 y])))),
    fun _ => mapv ds = mapv (unv (mapv ds)),
    fun _ => unv (mapv ds) = intsC (unIs (unv (mapv ds))) ∧ List.length (unIs (unv (mapv ds))) = k ∧ (0 : Int) ≤ x ∧ x < (↑k : Int) ∧ (0 : Int) ≤ y ∧ y < (↑k : Int),
    fun _ => (k + (1 : Nat)) * (8 : Nat) ≤ (140737488355328 : Nat) ∧ k + (1 : Nat) ≤ (140737488355328 : Nat)] (It.rnd [(0 : Nat), (0 : Nat), (1 : Nat), (0 : Nat), (1 : Nat), (1 : Nat), (1 : Nat)] (M + (1 : Nat)) :: kt) (St.mk [((15 : Nat), SV.v (Value.int IntKind.i64 (IntKind.wrap IntKind.i64 ((↑k : Int) + (1 : Int))))), ((14 : Nat), SV.v (Value.int IntKind.i64 (↑N : Int))), ((13 : Nat), SV.o (0 : Nat)), ((5 : Nat), SV.o (3 : Nat)), ((2 : Nat), SV.v (Value.slice none (0 : Nat) (0 : Nat)))] [HO.row (82 : Nat) (1 : Nat) N (mapv cs), HO.gone, HO.row (3 : Nat) (1 : Nat) (1 : Nat) [SV.v (Value.int IntKind.i64 (if (1000 : Int) < maxI (unv (mapv ds)) x y then (1000 : Int) else maxI (unv (mapv ds)) x y))], HO.row (3 : Nat) (1 : Nat) (k + (1 : Nat)) (mapv ds ++ [SV.v (Value.int IntKind.i64 (if (1000 : Int) < maxI (unv (mapv ds)) x y then (1000 : Int) else maxI (unv (mapv ds)) x y))])])]
  := by kernel_rfl

theorem dg1m (N k M : Nat) (cs ds : List Value) (x y : Int) (kt : List It) : ((xgo Try.prog X (bodyOf Try.f24) 28 K7 [] 60 [.t, .lo 0 (.v (.iface 132 (.agg #[.int .i64 x, .int .i64 y])))] ((.nil)) (.at [0,0,1,0,1,1,1] :: .rnd [0,0,1,0,1,1,1] (M + 1) :: kt) ⟨[(15, .v (.int .i64 (k : Int))), (14, .v (.int .i64 (N : Int))), (13, .o 0), (5, .o 1), (2, .v (.slice none 0 0))], [.row 82 1 N (mapv cs), .row 3 1 k (mapv ds)]⟩ [] []).map (trims [15, 14, 13, 5, 2])) =
  some [Leaf2.mk [] [fun _ => decide ((↑k : Int) < (↑N : Int)) = true,
    fun _ => (0 : Int) ≤ (↑k : Int) ∧ (↑k : Int) < (↑N : Int),
    fun _ => (0 : Nat) < List.length (mapv cs),
    fun _ => (mapv cs)[Int.toNat (↑k : Int) * (1 : Nat)]? = some (SV.v (Value.iface (132 : Nat) (Value.agg (Array.mk [Value.int IntKind.i64 x, Value.int IntKind.i64 y])))),
    fun _ => mapv ds = mapv (unv (mapv ds)),
    fun _ => unv (mapv ds) = intsC (unIs (unv (mapv ds))) ∧ List.length (unIs (unv (mapv ds))) = k ∧ (0 : Int) ≤ x ∧ x < (↑k : Int) ∧ (0 : Int) ≤ y ∧ y < (↑k : Int) ∧ ∀ (z : Int), z ∈ unIs (unv (mapv ds)) → (0 : Int) ≤ z ∧ z ≤ (1000 : Int),
    fun _ => (k + (1 : Nat)) * (8 : Nat) ≤ (140737488355328 : Nat) ∧ k + (1 : Nat) ≤ (140737488355328 : Nat)] (It.rnd [(0 : Nat), (0 : Nat), (1 : Nat), (0 : Nat), (1 : Nat), (1 : Nat), (1 : Nat)] (M + (1 : Nat)) :: kt) (St.mk [((15 : Nat), SV.v (Value.int IntKind.i64 (IntKind.wrap IntKind.i64 ((↑k : Int) + (1 : Int))))), ((14 : Nat), SV.v (Value.int IntKind.i64 (↑N : Int))), ((13 : Nat), SV.o (0 : Nat)), ((5 : Nat), SV.o (3 : Nat)), ((2 : Nat), SV.v (Value.slice none (0 : Nat) (0 : Nat)))] [HO.row (82 : Nat) (1 : Nat) N (mapv cs), HO.gone, HO.row (3 : Nat) (1 : Nat) (1 : Nat) [SV.v (Value.int IntKind.i64 (if (1000 : Int) < sumI (unv (mapv ds)) x y then (1000 : Int) else sumI (unv (mapv ds)) x y))], HO.row (3 : Nat) (1 : Nat) (k + (1 : Nat)) (mapv ds ++ [SV.v (Value.int IntKind.i64 (if (1000 : Int) < sumI (unv (mapv ds)) x y then (1000 : Int) else sumI (unv (mapv ds)) x y))])])]
  := by kernel_rfl

theorem dg1s (N k M : Nat) (cs ds : List Value) (x z0 z1 z2 z3 : Int) (kt : List It) : ((xgo Try.prog X (bodyOf Try.f24) 28 K7 [] 60 [.t, .lo 0 (.v (.iface 134 (.agg #[.int .i64 x, .int .u64 z0, .int .u64 z1, .int .u64 z2, .int .u64 z3])))] ((.nil)) (.at [0,0,1,0,1,1,1] :: .rnd [0,0,1,0,1,1,1] (M + 1) :: kt) ⟨[(15, .v (.int .i64 (k : Int))), (14, .v (.int .i64 (N : Int))), (13, .o 0), (5, .o 1), (2, .v (.slice none 0 0))], [.row 82 1 N (mapv cs), .row 3 1 k (mapv ds)]⟩ [] []).map (trims [15, 14, 13, 5, 2])) =
  some [Leaf2.mk [] [fun _ => decide ((↑k : Int) < (↑N : Int)) = true,
    fun _ => (0 : Int) ≤ (↑k : Int) ∧ (↑k : Int) < (↑N : Int),
    fun _ => (0 : Nat) < List.length (mapv cs),
    fun _ => (mapv cs)[Int.toNat (↑k : Int) * (1 : Nat)]? = some (SV.v (Value.iface (134 : Nat) (Value.agg (Array.mk [Value.int IntKind.i64 x, Value.int IntKind.u64 z0, Value.int IntKind.u64 z1, Value.int IntKind.u64 z2, Value.int IntKind.u64 z3])))),
    fun _ => mapv ds = mapv (unv (mapv ds)),
    fun _ => unv (mapv ds) = intsC (unIs (unv (mapv ds))) ∧ List.length (unIs (unv (mapv ds))) = k ∧ (0 : Int) ≤ x ∧ x < (↑k : Int),
    fun _ => (k + (1 : Nat)) * (8 : Nat) ≤ (140737488355328 : Nat) ∧ k + (1 : Nat) ≤ (140737488355328 : Nat)] (It.rnd [(0 : Nat), (0 : Nat), (1 : Nat), (0 : Nat), (1 : Nat), (1 : Nat), (1 : Nat)] (M + (1 : Nat)) :: kt) (St.mk [((15 : Nat), SV.v (Value.int IntKind.i64 (IntKind.wrap IntKind.i64 ((↑k : Int) + (1 : Int))))), ((14 : Nat), SV.v (Value.int IntKind.i64 (↑N : Int))), ((13 : Nat), SV.o (0 : Nat)), ((5 : Nat), SV.o (3 : Nat)), ((2 : Nat), SV.v (Value.slice none (0 : Nat) (0 : Nat)))] [HO.row (82 : Nat) (1 : Nat) N (mapv cs), HO.gone, HO.row (3 : Nat) (1 : Nat) (1 : Nat) [SV.v (Value.int IntKind.i64 (if (1000 : Int) < getI (unv (mapv ds)) x then (1000 : Int) else getI (unv (mapv ds)) x))], HO.row (3 : Nat) (1 : Nat) (k + (1 : Nat)) (mapv ds ++ [SV.v (Value.int IntKind.i64 (if (1000 : Int) < getI (unv (mapv ds)) x then (1000 : Int) else getI (unv (mapv ds)) x))])])]
  := by kernel_rfl

theorem dgE1 (N k M : Nat) (cs ds : List Value) : (((xgo Try.prog X (bodyOf Try.f24) 28 K7 [] 60 [.f] ((.nil)) [.at [0,0,1,0,1,1,1], .rnd [0,0,1,0,1,1,1] (M + 1), .blk 0, .at [1,1,1,1]] ⟨[(15, .v (.int .i64 (k : Int))), (14, .v (.int .i64 (N : Int))), (13, .o 0), (5, .o 1), (2, .v (.slice none 0 0))], [.row 82 1 N (mapv cs), .row 3 1 k (mapv ds)]⟩ [] []).bind (ends Try.prog Try.f24.results.toList)).bind plainE) =
  some [EndP.mk [] [fun _ => decide ((↑k : Int) < (↑N : Int)) = false,
    fun _ => mapv ds = mapv (unv (mapv ds))] (Res.r (3 : Nat) (1 : Nat) k (unv (mapv ds)))]
  := by kernel_rfl

theorem dgE0 (N M : Nat) (cs : List Value) : (((xgo Try.prog X (bodyOf Try.f24) 28 K7 [] 60 [.f] ((.nil)) [.at [0,0,1,0,1,1,1], .rnd [0,0,1,0,1,1,1] (M + 1), .blk 0, .at [1,1,1,1]] ⟨[(15, .v (.int .i64 0)), (14, .v (.int .i64 (N : Int))), (13, .o 0), (5, .v (.slice none 0 0)), (2, .v (.slice none 0 0))], [.row 82 1 N (mapv cs)]⟩ [] []).bind (ends Try.prog Try.f24.results.toList)).bind plainE) =
  some [EndP.mk [] [fun _ => decide ((0 : Int) < (↑N : Int)) = false] (Res.v (Value.slice none (0 : Nat) (0 : Nat)))]
  := by kernel_rfl

noncomputable def stDg (cs ds : List Value) (N k : Nat) : St := ⟨[(15, .v (.int .i64 (k : Int))), (14, .v (.int .i64 (N : Int))), (13, .o 0), (5, .o 1), (2, .v (.slice none 0 0))], [.row 82 1 N (mapv cs), .row 3 1 k (mapv ds)]⟩
noncomputable def stDg0 (cs : List Value) (N : Nat) : St := ⟨[(15, .v (.int .i64 0)), (14, .v (.int .i64 (N : Int))), (13, .o 0), (5, .v (.slice none 0 0)), (2, .v (.slice none 0 0))], [.row 82 1 N (mapv cs)]⟩
theorem dg_weak {w : World} {fin : Exit → Act → World → Prop} (cs ds : List Value) (v : Value) (N k j : Nat) (hj : nodupB [0, j] = true) (kt : List It) (tm : List (Nat × SV)) (hp : List HO) (h1 : RenT [0, j] tm (stDg cs (ds ++ [v]) N (k + 1)).tm) (h2 : hp[0]? = some (.row 82 1 N (mapv cs))) (h3 : hp[j]? = some (.row 3 1 (k + 1) (mapv ds ++ [SV.v v])))
    (next : Ok Try.prog (bodyOf Try.f24) 28 (F0 w) w fin kt (stDg cs (ds ++ [v]) N (k + 1))) : Ok Try.prog (bodyOf Try.f24) 28 (F0 w) w fin kt ⟨tm, hp⟩ := by
  have e : mapv ds ++ [SV.v v] = mapv (ds ++ [v]) := by rw [mapv_append]; rfl
  refine Ok.weaken (st' := stDg cs (ds ++ [v]) N (k + 1)) (F0.mono w) [0, j] h1 ⟨by rw [h2]; exact ren_row _ _ _ _ _, by rw [h3, e]; exact ren_row _ _ _ _ _, trivial⟩ hj ⟨by simp [stDg, wsAllT, ws], by simp only [stDg, wsAllH, HO.ws, and_true]; exact ⟨wsL_mapv _ _, wsL_mapv _ _⟩⟩ next
theorem dg_loop {w : World} (all : List Nd) (hw : ∀ x ∈ all, x.v < top) (ho : ordN 0 all = true) (hb : all.length ≤ 4398046511104) (R : Res → Prop) :
    ∀ (l pre : List Nd) (out : List Int), all = pre ++ l → out.length = pre.length → (∀ z ∈ out, 0 ≤ z ∧ z ≤ 1000) → R (.r 3 1 all.length (intsC (degsN out l))) →
    Ok Try.prog (bodyOf Try.f24) 28 (F0 w) w (bodyPost Try.prog Try.f24 fun E w' => ∃ v r, E = .returned v ∧ R r ∧ r.ok w w' v ∧ Below w.heap.size w w') (.rnd [0,0,1,0,1,1,1] (l.length + 2) :: [.blk 0, .at [1,1,1,1]]) (stDg (stC (nodesC all)) (intsC out) all.length pre.length)
  | [], pre, out, he, hl0, hz, hR => by
    have hl : pre.length = all.length := by rw [he]; simp
    refine Ok.rnd (ok_plain hm (F0.mono w) (fun _ h => h) 60 _ _ _ _ (dgE1 all.length pre.length 0 (stC (nodesC all)) (intsC out)) ⟨fun _ => ⟨?_, ?_⟩, trivial⟩)
    · simp only [hold_cons, hold_nil, and_true, unv_mapv']
      exact ⟨fun _ _ => decide_eq_false (by omega), fun _ _ => trivial⟩
    · rw [unv_mapv', hl]
      exact hR
  | x :: l, pre, out, he, hl0, hz, hR => by
    have hl : pre.length + (l.length + 1) = all.length := by rw [he]; simp
    have hlt : pre.length < all.length := by omega
    have hgx : all[pre.length] = x := by simp [he]
    have hget := stC_get hw ho pre.length hlt
    rw [hgx] at hget
    have hop := ordN_op all 0 ho x (by rw [he]; simp)
    have hus := okN_uses (by have := ordN_at pre l x 0 (by rw [← he]; exact ho); rwa [Nat.zero_add] at this)
    have s1 : decide (((pre.length : Nat) : Int) < (all.length : Int)) = true := decide_eq_true (by omega)
    have s2 : (0 : Int) ≤ ((pre.length : Nat) : Int) ∧ ((pre.length : Nat) : Int) < (all.length : Int) := ⟨by omega, by omega⟩
    have s3 : 0 < (mapv (stC (nodesC all))).length := by
      rw [stC, unNds_nodesC all hw, if_pos ho, mapv_length, List.length_map]; omega
    have s4 : (pre.length + 1) * 8 ≤ 140737488355328 ∧ pre.length + 1 ≤ 140737488355328 := ⟨by omega, by omega⟩
    have hlen : (pre ++ [x]).length = pre.length + 1 := by simp
    have hdb := degN_bound hz x
    have next := dg_loop (w := w) all hw ho hb R l (pre ++ [x]) (out ++ [degN out x]) (by rw [he]; simp) (by simp [hl0]) (by
      intro z hz'
      rcases List.mem_append.1 hz' with h | h
      · exact hz z h
      · rw [List.mem_singleton] at h; rw [h]; exact hdb) hR
    rw [hlen, intsC_snoc] at next
    by_cases hkc : x.op = 1
    · rw [stV_c hkc] at hget
      rw [degN_c out hkc] at next
      refine Ok.rnd (xgo_trim hm (F0.mono w) finB 60 _ _ _ _ _ _ (dg1c all.length pre.length (l.length + 1) (stC (nodesC all)) (intsC out) (limb x.v 0 : Nat) (limb x.v 1 : Nat) (limb x.v 2 : Nat) (limb x.v 3 : Nat) _) (paidCons (fun _ => ⟨?_, ?_⟩) paidNil))
      · simp only [hold_cons, hold_nil, and_true, unv_mapv']
        exact ⟨fun _ _ => s1, fun _ _ => s2, fun _ _ => s3, fun _ _ => hget, fun _ _ => trivial, fun _ _ => trivial, fun _ _ => s4⟩
      · simp only [wrap_inc pre.length (by omega)]
        exact dg_weak _ _ _ _ _ 3 rfl _ _ _ ⟨rfl, rfl, rfl, rfl, rfl, trivial⟩ rfl rfl next
    by_cases hkq : 2 ≤ x.op ∧ x.op ≤ 4
    · rw [stV_q hkq] at hget
      rw [degN_q out hkq] at next
      refine Ok.rnd (xgo_trim hm (F0.mono w) finB 60 _ _ _ _ _ _ (dg1q all.length pre.length (l.length + 1) (stC (nodesC all)) (intsC out) x.op x.a x.b _) (paidCons (fun _ => ⟨?_, ?_⟩) paidNil))
      · simp only [hold_cons, hold_nil, and_true, unv_mapv']
        exact ⟨fun _ _ => s1, fun _ _ => s2, fun _ _ => s3, fun _ _ => hget, fun _ _ => trivial, fun _ _ => trivial, fun _ _ => s4⟩
      · simp only [wrap_inc pre.length (by omega)]
        exact dg_weak _ _ _ _ _ 3 rfl _ _ _ ⟨rfl, rfl, rfl, rfl, rfl, trivial⟩ rfl rfl next
    by_cases hkn : x.op = 5
    · rw [stV_n hkn] at hget
      have hu : usesN x = [x.a] := by unfold usesN; rw [if_pos (by omega)]
      rw [hu] at hus
      have u1 := hus x.a (by simp)
      rw [degN_n out hkn] at next
      refine Ok.rnd (xgo_trim hm (F0.mono w) finB 60 _ _ _ _ _ _ (dg1n all.length pre.length (l.length + 1) (stC (nodesC all)) (intsC out) x.a _) (paidCons (fun _ => ⟨?_, ?_⟩) paidNil))
      · simp only [hold_cons, hold_nil, and_true, unv_mapv', unIs_intsC]
        exact ⟨fun _ _ => s1, fun _ _ => s2, fun _ _ => s3, fun _ _ => hget, fun _ _ => trivial, fun _ _ => ⟨trivial, hl0, u1⟩, fun _ _ => s4⟩
      · simp only [wrap_inc pre.length (by omega), unv_mapv', getI, hidZ_eq, unIs_intsC]
        exact dg_weak _ _ _ _ _ 3 rfl _ _ _ ⟨rfl, rfl, rfl, rfl, rfl, trivial⟩ rfl rfl next
    by_cases hka : x.op = 6
    · rw [stV_a hka] at hget
      have hu : usesN x = [x.a, x.b] := by unfold usesN; rw [if_neg (by omega), if_pos (by omega)]
      rw [hu] at hus
      have u1 := hus x.a (by simp)
      have u2 := hus x.b (by simp)
      rw [degN_a out hka] at next
      refine Ok.rnd (xgo_trim hm (F0.mono w) finB 60 _ _ _ _ _ _ (dg1a all.length pre.length (l.length + 1) (stC (nodesC all)) (intsC out) x.a x.b _) (paidCons (fun _ => ⟨?_, ?_⟩) paidNil))
      · simp only [hold_cons, hold_nil, and_true, unv_mapv', unIs_intsC]
        exact ⟨fun _ _ => s1, fun _ _ => s2, fun _ _ => s3, fun _ _ => hget, fun _ _ => trivial, fun _ _ => ⟨trivial, hl0, u1.1, u1.2, u2.1, u2.2⟩, fun _ _ => s4⟩
      · simp only [wrap_inc pre.length (by omega), unv_mapv', maxI, hidZ_eq, unIs_intsC]
        exact dg_weak _ _ _ _ _ 3 rfl _ _ _ ⟨rfl, rfl, rfl, rfl, rfl, trivial⟩ rfl rfl next
    by_cases hkm : x.op = 7
    · rw [stV_m hkm] at hget
      have hu : usesN x = [x.a, x.b] := by unfold usesN; rw [if_neg (by omega), if_pos (by omega)]
      rw [hu] at hus
      have u1 := hus x.a (by simp)
      have u2 := hus x.b (by simp)
      rw [degN_m out hkm] at next
      refine Ok.rnd (xgo_trim hm (F0.mono w) finB 60 _ _ _ _ _ _ (dg1m all.length pre.length (l.length + 1) (stC (nodesC all)) (intsC out) x.a x.b _) (paidCons (fun _ => ⟨?_, ?_⟩) paidNil))
      · simp only [hold_cons, hold_nil, and_true, unv_mapv', unIs_intsC]
        exact ⟨fun _ _ => s1, fun _ _ => s2, fun _ _ => s3, fun _ _ => hget, fun _ _ => trivial, fun _ _ => ⟨trivial, hl0, u1.1, u1.2, u2.1, u2.2, hz⟩, fun _ _ => s4⟩
      · simp only [wrap_inc pre.length (by omega), unv_mapv', sumI, hidZ_eq, unIs_intsC]
        exact dg_weak _ _ _ _ _ 3 rfl _ _ _ ⟨rfl, rfl, rfl, rfl, rfl, trivial⟩ rfl rfl next
    by_cases hks : x.op = 8
    · rw [stV_s hks] at hget
      have hu : usesN x = [x.a] := by unfold usesN; rw [if_pos (by omega)]
      rw [hu] at hus
      have u1 := hus x.a (by simp)
      rw [degN_s out hks] at next
      refine Ok.rnd (xgo_trim hm (F0.mono w) finB 60 _ _ _ _ _ _ (dg1s all.length pre.length (l.length + 1) (stC (nodesC all)) (intsC out) x.a (limb x.v 0 : Nat) (limb x.v 1 : Nat) (limb x.v 2 : Nat) (limb x.v 3 : Nat) _) (paidCons (fun _ => ⟨?_, ?_⟩) paidNil))
      · simp only [hold_cons, hold_nil, and_true, unv_mapv', unIs_intsC]
        exact ⟨fun _ _ => s1, fun _ _ => s2, fun _ _ => s3, fun _ _ => hget, fun _ _ => trivial, fun _ _ => ⟨trivial, hl0, u1⟩, fun _ _ => s4⟩
      · simp only [wrap_inc pre.length (by omega), unv_mapv', getI, hidZ_eq, unIs_intsC]
        exact dg_weak _ _ _ _ _ 3 rfl _ _ _ ⟨rfl, rfl, rfl, rfl, rfl, trivial⟩ rfl rfl next
    exfalso; omega
theorem dg_loop0 {w : World} (all : List Nd) (hw : ∀ x ∈ all, x.v < top) (ho : ordN 0 all = true) (hb : all.length ≤ 4398046511104) (R : Res → Prop) (hnil : ∀ (T sz : Nat), R (.r T sz 0 []) → R (.v (.slice none 0 0))) :
    ∀ (l : List Nd), all = l → R (.r 3 1 all.length (intsC (degsN [] l))) →
    Ok Try.prog (bodyOf Try.f24) 28 (F0 w) w (bodyPost Try.prog Try.f24 fun E w' => ∃ v r, E = .returned v ∧ R r ∧ r.ok w w' v ∧ Below w.heap.size w w') (.rnd [0,0,1,0,1,1,1] (l.length + 2) :: [.blk 0, .at [1,1,1,1]]) (stDg0 (stC (nodesC all)) all.length)
  | [], he, hR => by
    have hl : all.length = 0 := by rw [he]; rfl
    refine Ok.rnd (ok_plain hm (F0.mono w) (fun _ h => h) 60 _ _ _ _ (dgE0 all.length 0 (stC (nodesC all))) ⟨fun _ => ⟨?_, ?_⟩, trivial⟩)
    · simp only [hold_cons, hold_nil, and_true]
      exact fun _ _ => decide_eq_false (by omega)
    · rw [hl] at hR
      exact hnil 3 1 hR
  | x :: l, he, hR => by
    have hl : l.length + 1 = all.length := by rw [he]; simp
    have hget := stC_get hw ho 0 (by omega)
    have hgx : all[0]'(by omega) = x := by simp [he]
    rw [hgx] at hget
    have hop := ordN_op all 0 ho x (by rw [he]; simp)
    have hus := okN_uses (k := 0) (x := x) (by have := ordN_at [] l x 0 (by rw [List.nil_append, ← he]; exact ho); simpa using this)
    have s1 : decide ((0 : Int) < (all.length : Int)) = true := decide_eq_true (by omega)
    have s2 : (0 : Int) ≤ 0 ∧ (0 : Int) < (all.length : Int) := ⟨by omega, by omega⟩
    have s3 : 0 < (mapv (stC (nodesC all))).length := by
      rw [stC, unNds_nodesC all hw, if_pos ho, mapv_length, List.length_map]; omega
    have next := dg_loop (w := w) all hw ho hb R l [x] [degN [] x] (by rw [he]; rfl) rfl (by
      intro z hz'
      rw [List.mem_singleton] at hz'; rw [hz']; exact degN_bound (by simp) x) hR
    by_cases hkc : x.op = 1
    · rw [stV_c hkc] at hget
      rw [degN_c [] hkc] at next
      refine Ok.rnd (xgo_trim hm (F0.mono w) finB 60 _ _ _ _ _ _ (dg0c all.length (l.length + 1) (stC (nodesC all)) (limb x.v 0 : Nat) (limb x.v 1 : Nat) (limb x.v 2 : Nat) (limb x.v 3 : Nat) _) (paidCons (fun _ => ⟨?_, ?_⟩) paidNil))
      · simp only [hold_cons, hold_nil, and_true]
        exact ⟨fun _ _ => s1, fun _ _ => s2, fun _ _ => s3, fun _ _ => hget, fun _ _ => trivial, fun _ _ => ⟨by omega, by omega⟩⟩
      · exact dg_weak (stC (nodesC all)) [] _ all.length 0 2 rfl _ _ _ ⟨rfl, rfl, rfl, rfl, rfl, trivial⟩ rfl rfl next
    by_cases hkq : 2 ≤ x.op ∧ x.op ≤ 4
    · rw [stV_q hkq] at hget
      rw [degN_q [] hkq] at next
      refine Ok.rnd (xgo_trim hm (F0.mono w) finB 60 _ _ _ _ _ _ (dg0q all.length (l.length + 1) (stC (nodesC all)) x.op x.a x.b _) (paidCons (fun _ => ⟨?_, ?_⟩) paidNil))
      · simp only [hold_cons, hold_nil, and_true]
        exact ⟨fun _ _ => s1, fun _ _ => s2, fun _ _ => s3, fun _ _ => hget, fun _ _ => trivial, fun _ _ => ⟨by omega, by omega⟩⟩
      · exact dg_weak (stC (nodesC all)) [] _ all.length 0 2 rfl _ _ _ ⟨rfl, rfl, rfl, rfl, rfl, trivial⟩ rfl rfl next
    exfalso
    have h5 : usesN x = [x.a] ∨ usesN x = [x.a, x.b] := by
      unfold usesN
      by_cases h1 : x.op = 5 ∨ x.op = 8
      · rw [if_pos h1]; exact .inl rfl
      · rw [if_neg h1, if_pos (by omega)]; exact .inr rfl
    have h6 : x.a ∈ usesN x := by rcases h5 with h | h <;> rw [h] <;> simp
    have h7 := hus x.a h6
    omega
theorem nilRow1 (w w' : World) (T : TypeId) (sz : Nat) (v : Value) (h : v = .slice none 0 0) : (Res.r T sz 0 []).ok w w' v := by rw [h]; exact nilRow w w' T sz
theorem degrees_ok (oa : Option Addr) (n cap : Nat) (all : List Nd) (hw : ∀ x ∈ all, x.v < top) (hn : all.length = n) (hb : n ≤ 4398046511104) (w : World) (ha : nodesC all = [] ∨ MCells (wmem w) oa (nodesC all)) :
    Calls Try.prog 24 [.slice oa n cap].toArray w (fun E w' => ∃ v, E = .returned v ∧ Res.ok w w' (.r 3 1 (degrees all).length (intsC (degrees all))) v ∧ Below w.heap.size w w') := by
  have hun := unNds_nodesC all hw
  have hmem : ∀ M, F0 w M → nodesC all = [] ∨ MCells (fun a => M a) oa (nodesC all) := fun _ hM => ha.imp id fun h => h.mono hM
  have hside : nodesC all = nodesC (unNds (nodesC all)) ∧ (unNds (nodesC all)).length = n ∧ n ≤ 4398046511104 := by rw [hun]; exact ⟨rfl, hn, hb⟩
  refine con_end2 (calls_of_ok (B := bodyOf Try.f24) (n := 28) Try.func24 (by kernel_rfl) rfl rfl (F := F0 w) (fun _ _ h => h) ?_)
  refine xgo_trim hm (F0.mono w) finB 60 _ _ _ _ _ _ (dgS oa n cap all) (paidCons (fun _ => ⟨?_, ?_⟩) paidNil)
  · simp only [hold_cons, hold_nil, and_true]
    exact ⟨hmem, fun _ _ => hside⟩
  · cases ho : ordN 0 all with
    | true =>
      have hN : stN (nodesC all) = all.length := by rw [stN, hide_eq, hun, if_pos ho]
      have hdl : (degsN [] all).length = all.length := by rw [degsN_length]; simp
      refine ok_mono (st := stDg0 (stC (nodesC all)) all.length) (by rw [← hN]; rfl) (Ok.loop (all.length + 2) (by kernel_rfl) (dg_loop0 all hw ho (by omega) (fun r => ∀ w w' v, r.ok w w' v → (Res.r 3 1 (degrees all).length (intsC (degrees all))).ok w w' v) ?_ all rfl ?_))
      · intro T sz h w1 w2 v hv
        exact h w1 w2 v (nilRow1 w1 w2 T sz v hv)
      · intro w1 w2 v hv
        rw [degrees, if_pos ho, hdl]
        exact hv
    | false =>
      have hN : stN (nodesC all) = 0 := by rw [stN, hide_eq, hun, ho]; rfl
      refine ok_mono (st := stDg0 (stC (nodesC all)) (stN (nodesC all))) rfl (Ok.loop 2 (by kernel_rfl) (Ok.rnd (ok_plain hm (F0.mono w) (fun _ h => h) 60 _ _ _ _ (dgE0 (stN (nodesC all)) 0 (stC (nodesC all))) ⟨fun _ => ⟨?_, ?_⟩, trivial⟩)))
      · simp only [hold_cons, hold_nil, and_true]
        exact fun _ _ => by rw [hN]; rfl
      · intro w1 w2 v hv
        rw [degrees, ho, if_neg (by simp)]
        exact nilRow1 w1 w2 3 1 v hv
noncomputable def gDegrees : List RV → Option (Res × Prop)
  | [.r n cs] => some (.r 3 1 (dgN cs) (dgL cs), cs = nodesC (unNds cs) ∧ (unNds cs).length = n ∧ n ≤ 4398046511104 ∧ ∀ x ∈ unNds cs, x.v < top)
  | _ => none
theorem gDegrees_ok (rvs : List RV) (r : Res) (p : Prop) (vs : List Value) (w : World) (hg : gDegrees rvs = some (r, p)) (hp : p) (hv : RVs (wmem w) rvs vs) : Calls Try.prog 24 vs.toArray w (fun E w' => ∃ v, E = .returned v ∧ r.ok w w' v ∧ Below w.heap.size w w') := by
  unfold gDegrees at hg
  split at hg
  · simp only [Option.some.injEq, Prod.mk.injEq] at hg
    obtain ⟨rfl, rfl⟩ := hg
    obtain ⟨hc, hn, hb, hw⟩ := hp
    match vs, hv with
    | [x], ⟨⟨oa, cap, h1, h2⟩, _⟩ =>
      rw [h1, dgN, dgL, hide_eq]
      rw [hc] at h2
      exact degrees_ok oa _ cap _ hw hn hb w h2
  · cases hg
noncomputable def K8 : Con Try.prog := K7.add 24 gDegrees gDegrees_ok
end Go.Proofs.Ytpghmnpbfaichaa

namespace Go.Pl
open Go.Sx
/-- A query. -/
abbrev Qy := Int × Int × Int
theorem qsC_cons (x : Qy) (l : List Qy) : qsC (x :: l) = [.int .i64 x.1, .int .i64 x.2.1, .int .i64 x.2.2] ++ qsC l := rfl
theorem qsC_append (a b : List Qy) : qsC (a ++ b) = qsC a ++ qsC b := by simp [qsC]
theorem qsC_length (l : List Qy) : (qsC l).length = l.length * 3 := by
  induction l with
  | nil => rfl
  | cons x r ih => rw [qsC_cons, List.length_append, ih, List.length_cons]; simp; omega
/-- The queries of cells. -/
def unQs : List Value → List Qy
  | a :: b :: c :: r => (unI a, unI b, unI c) :: unQs r
  | _ => []
theorem unQs_qsC : ∀ (l : List Qy), unQs (qsC l) = l
  | [] => rfl
  | x :: r => by
    rw [qsC_cons]
    simp only [List.cons_append, List.nil_append, unQs, unI]
    rw [unQs_qsC r]
theorem qs_at {M : Mem} {ad : Addr} (pre l : List Qy) (x : Qy) (h : MCells M (some ad) (qsC (pre ++ x :: l))) : MCells M (some (ad.add (pre.length * 3))) [.int .i64 x.1, .int .i64 x.2.1, .int .i64 x.2.2] := by
  refine MCells.at h _ _ fun j v hj => ?_
  rw [qsC_append, qsC_cons, List.getElem?_append_right (by rw [qsC_length]; omega), qsC_length, Nat.add_sub_cancel_left, List.getElem?_append_left (List.getElem?_eq_some_iff.1 hj).1]
  exact hj
def sameQ (a b c : Int) (x : Qy) : Bool := decide ([a, b, c] = [x.1, x.2.1, x.2.2])
noncomputable def qIdx (cs : List Value) (a b c : Int) : Int := hidZ (idxF (sameQ a b c) 0 (unQs cs))
noncomputable def qHas (cs : List Value) (a b c : Int) : Bool := hidQ (decide ((a, b, c) ∈ unQs cs))
theorem any_sameQ (a b c : Int) (l : List Qy) : l.any (sameQ a b c) = decide ((a, b, c) ∈ l) := by
  rw [Bool.eq_iff_iff, List.any_eq_true, decide_eq_true_iff]
  constructor
  · rintro ⟨x, hx, h⟩
    have := of_decide_eq_true h
    simp only [List.cons.injEq, and_true] at this
    obtain ⟨rfl, rfl, rfl⟩ := this
    exact hx
  · intro h
    exact ⟨(a, b, c), h, decide_eq_true rfl⟩
end Go.Pl
namespace Go.Proofs.Ytpghmnpbfaichaa
open Go.Sx Go.Pl Go.RowKit
theorem iqS (oa : Option Addr) (n cap : Nat) (a b c : Int) : ((xgo Try.prog X (bodyOf Try.f67) 19 K8 [] 60 [] ((.nil)) [.at []] ⟨argsTm 0 [.slice oa n cap, .agg (Array.mk [.int .i64 a, .int .i64 b, .int .i64 c])], []⟩ [] []).map (trims [8, 7, 3, 0])) =
  some [Leaf2.mk [] [] [It.at [(0 : Nat), (1 : Nat), (0 : Nat), (1 : Nat)], It.blk (0 : Nat), It.at [(1 : Nat), (1 : Nat)]] (St.mk [((8 : Nat), SV.v (Value.int IntKind.i64 (0 : Int))), ((7 : Nat), SV.v (Value.int IntKind.i64 (↑n : Int))), ((3 : Nat), SV.p (0 : Nat) (0 : Nat)), ((0 : Nat), SV.v (Value.slice oa n cap))] [HO.cells [SV.v (Value.int IntKind.i64 a), SV.v (Value.int IntKind.i64 b), SV.v (Value.int IntKind.i64 c)] (63 : Nat)])]
  := by kernel_rfl

theorem iqE (oa : Option Addr) (n cap k M : Nat) (a b c : Int) : (((xgo Try.prog X (bodyOf Try.f67) 19 K8 [] 60 [.f] ((.nil)) [.at [0,0,1,0,1], .rnd [0,0,1,0,1] (M + 1), .blk 0, .at [1,1]] ⟨[(8, .v (.int .i64 (k : Int))), (7, .v (.int .i64 (n : Int))), (3, .p 0 0), (0, .v (.slice oa n cap))], [.cells [.v (.int .i64 a), .v (.int .i64 b), .v (.int .i64 c)] 63]⟩ [] []).bind (ends Try.prog Try.f67.results.toList)).bind plainE) =
  some [EndP.mk [] [fun _ => decide ((↑k : Int) < (↑n : Int)) = false] (Res.v (Value.int IntKind.i64 (-1 : Int)))]
  := by kernel_rfl

theorem iqT (ad : Addr) (n cap k M : Nat) (a b c x y z : Int) : (((xgo Try.prog X (bodyOf Try.f67) 19 K8 [] 60 [.t, .ld (.agg [.v (.int .i64 x), .v (.int .i64 y), .v (.int .i64 z)]), .t] ((.nil)) [.at [0,0,1,0,1], .rnd [0,0,1,0,1] (M + 1), .blk 0, .at [1,1]] ⟨[(8, .v (.int .i64 (k : Int))), (7, .v (.int .i64 (n : Int))), (3, .p 0 0), (0, .v (.slice (some ad) n cap))], [.cells [.v (.int .i64 a), .v (.int .i64 b), .v (.int .i64 c)] 63]⟩ [] []).bind (ends Try.prog Try.f67.results.toList)).bind plainE) =
  some [EndP.mk [] [fun _ => decide ((↑k : Int) < (↑n : Int)) = true,
    fun _ => (0 : Int) ≤ (↑k : Int) ∧ (↑k : Int) < (↑n : Int),
    fun _ => true = true, fun M => MCells (fun a => M a) (some (if Int.toNat (↑k : Int) * (3 : Nat) = (0 : Nat) then ad else Addr.mk ad.1 (ad.2 + Int.toNat (↑k : Int) * (3 : Nat)) none)) [Value.int IntKind.i64 x, Value.int IntKind.i64 y, Value.int IntKind.i64 z],
    fun _ => decide ([a, b, c] = [x, y, z]) = true] (Res.v (Value.int IntKind.i64 (↑k : Int)))]
  := by kernel_rfl

theorem iqN (ad : Addr) (n cap k M : Nat) (a b c x y z : Int) (kt : List It) : ((xgo Try.prog X (bodyOf Try.f67) 19 K8 [] 60 [.t, .ld (.agg [.v (.int .i64 x), .v (.int .i64 y), .v (.int .i64 z)]), .f] ((.nil)) (.at [0,0,1,0,1] :: .rnd [0,0,1,0,1] (M + 1) :: kt) ⟨[(8, .v (.int .i64 (k : Int))), (7, .v (.int .i64 (n : Int))), (3, .p 0 0), (0, .v (.slice (some ad) n cap))], [.cells [.v (.int .i64 a), .v (.int .i64 b), .v (.int .i64 c)] 63]⟩ [] []).map (trims [8, 7, 3, 0])) =
  some [Leaf2.mk [] [fun _ => decide ((↑k : Int) < (↑n : Int)) = true,
    fun _ => (0 : Int) ≤ (↑k : Int) ∧ (↑k : Int) < (↑n : Int),
    fun _ => true = true, fun M => MCells (fun a => M a) (some (if Int.toNat (↑k : Int) * (3 : Nat) = (0 : Nat) then ad else Addr.mk ad.1 (ad.2 + Int.toNat (↑k : Int) * (3 : Nat)) none)) [Value.int IntKind.i64 x, Value.int IntKind.i64 y, Value.int IntKind.i64 z],
    fun _ => decide ([a, b, c] = [x, y, z]) = false] (It.rnd [(0 : Nat), (0 : Nat), (1 : Nat), (0 : Nat), (1 : Nat)] (M + (1 : Nat)) :: kt) (St.mk [((8 : Nat), SV.v (Value.int IntKind.i64 (IntKind.wrap IntKind.i64 ((↑k : Int) + (1 : Int))))), ((7 : Nat), SV.v (Value.int IntKind.i64 (↑n : Int))), ((3 : Nat), SV.p (0 : Nat) (0 : Nat)), ((0 : Nat), SV.v (Value.slice (some ad) n cap))] [HO.cells [SV.v (Value.int IntKind.i64 a), SV.v (Value.int IntKind.i64 b), SV.v (Value.int IntKind.i64 c)] (63 : Nat)])]
  := by kernel_rfl

theorem rvs2 {M : Mem} {x y : Value} {vs : List Value} (h : RVs M [.v x, .v y] vs) : vs = [x, y] := by
  match vs, h with
  | [a, b], ⟨h1, h2, _⟩ => rw [h1, h2]
noncomputable def stIq (oa : Option Addr) (n cap k : Nat) (a b c : Int) : St := ⟨[(8, .v (.int .i64 (k : Int))), (7, .v (.int .i64 (n : Int))), (3, .p 0 0), (0, .v (.slice oa n cap))], [.cells [.v (.int .i64 a), .v (.int .i64 b), .v (.int .i64 c)] 63]⟩
theorem iq_loop {w : World} (oa : Option Addr) (n cap : Nat) (a b c : Int) (all : List Qy) (hn : all.length = n) (hb : n ≤ 4611686018427387903) (ha : qsC all = [] ∨ MCells (wmem w) oa (qsC all)) (R : Res → Prop) :
    ∀ (l pre : List Qy), all = pre ++ l → R (.v (.int .i64 (idxF (sameQ a b c) pre.length l))) →
    Ok Try.prog (bodyOf Try.f67) 19 (F0 w) w (bodyPost Try.prog Try.f67 fun E w' => ∃ v r, E = .returned v ∧ R r ∧ r.ok w w' v ∧ Below w.heap.size w w') (.rnd [0,0,1,0,1] (l.length + 2) :: [.blk 0, .at [1,1]]) (stIq oa n cap pre.length a b c)
  | [], pre, he, hR => by
    have hl : pre.length = n := by rw [← hn, he]; simp
    refine Ok.rnd (ok_plain hm (F0.mono w) (fun _ h => h) 60 _ _ _ _ (iqE oa n cap pre.length 0 a b c) ⟨fun _ => ⟨?_, hR⟩, trivial⟩)
    simp only [hold_cons, hold_nil, and_true]
    exact fun _ _ => decide_eq_false (by omega)
  | x :: l, pre, he, hR => by
    have hl : pre.length + (l.length + 1) = n := by rw [← hn, he]; simp
    have hne : MCells (wmem w) oa (qsC all) := by
      rcases ha with h | h
      · rw [he, qsC_append, qsC_cons] at h; simp at h
      · exact h
    obtain ⟨ad, rfl, hcells⟩ := hne
    have hx := qs_at pre l x (by rw [← he]; exact ⟨ad, rfl, hcells⟩)
    have s1 : decide (((pre.length : Nat) : Int) < (n : Int)) = true := decide_eq_true (by omega)
    have s2 : (0 : Int) ≤ ((pre.length : Nat) : Int) ∧ ((pre.length : Nat) : Int) < (n : Int) := ⟨by omega, by omega⟩
    rw [idxF] at hR
    cases hq : sameQ a b c x with
    | true =>
      rw [hq, if_pos rfl] at hR
      refine Ok.rnd (ok_plain hm (F0.mono w) (fun _ h => h) 60 _ _ _ _ (iqT ad n cap pre.length (l.length + 1) a b c x.1 x.2.1 x.2.2) ⟨fun _ => ⟨?_, hR⟩, trivial⟩)
      simp only [hold_cons, hold_nil, and_true]
      exact ⟨fun _ _ => s1, fun _ _ => s2, fun _ _ => trivial, hold_cells hx, fun _ _ => hq⟩
    | false =>
      rw [hq, if_neg (by simp)] at hR
      refine Ok.rnd (xgo_trim hm (F0.mono w) finB 60 _ _ _ _ _ _ (iqN ad n cap pre.length (l.length + 1) a b c x.1 x.2.1 x.2.2 _) (paidCons (fun _ => ⟨?_, ?_⟩) paidNil))
      · simp only [hold_cons, hold_nil, and_true]
        exact ⟨fun _ _ => s1, fun _ _ => s2, fun _ _ => trivial, hold_cells hx, fun _ _ => hq⟩
      · simp only [wrap_inc pre.length (by omega)]
        have hlen : (pre ++ [x]).length = pre.length + 1 := by simp
        refine ok_mono (st := stIq (some ad) n cap (pre ++ [x]).length a b c) (by rw [hlen]; rfl) (iq_loop (some ad) n cap a b c all hn hb ha R l (pre ++ [x]) (by rw [he]; simp) (by rw [hlen]; exact hR))
theorem qidx_ok (oa : Option Addr) (n cap : Nat) (a b c : Int) (all : List Qy) (hn : all.length = n) (hb : n ≤ 4611686018427387903) (w : World) (ha : qsC all = [] ∨ MCells (wmem w) oa (qsC all)) :
    Calls Try.prog 67 [.slice oa n cap, .agg (Array.mk [.int .i64 a, .int .i64 b, .int .i64 c])].toArray w (fun E w' => ∃ v, E = .returned v ∧ Res.ok w w' (.v (.int .i64 (idxF (sameQ a b c) 0 all))) v ∧ Below w.heap.size w w') := by
  refine con_end (calls_of_ok (B := bodyOf Try.f67) (n := 19) Try.func67 (by kernel_rfl) rfl rfl (F := F0 w) (fun _ _ h => h) ?_)
  refine xgo_trim hm (F0.mono w) finB 60 _ _ _ _ _ _ (iqS oa n cap a b c) (paidCons (fun _ => ⟨?_, ?_⟩) paidNil)
  · simp only [hold_nil]
  · exact ok_mono (st := stIq oa n cap 0 a b c) rfl (Ok.loop (all.length + 2) (by kernel_rfl) (iq_loop oa n cap a b c all hn hb ha (fun r => r = .v (.int .i64 (idxF (sameQ a b c) 0 all))) all [] rfl rfl))
noncomputable def gQIdx : List RV → Option (Res × Prop)
  | [.r n cs, .v (.agg ⟨[.int .i64 a, .int .i64 b, .int .i64 c]⟩)] => some (.v (.int .i64 (qIdx cs a b c)), cs = qsC (unQs cs) ∧ (unQs cs).length = n ∧ n ≤ 4611686018427387903)
  | [.v (.slice none 0 0), .v (.agg ⟨[.int .i64 a, .int .i64 b, .int .i64 c]⟩)] => some (.v (.int .i64 (qIdx [] a b c)), True)
  | _ => none
theorem gQIdx_ok (rvs : List RV) (r : Res) (p : Prop) (vs : List Value) (w : World) (hg : gQIdx rvs = some (r, p)) (hp : p) (hv : RVs (wmem w) rvs vs) : Calls Try.prog 67 vs.toArray w (fun E w' => ∃ v, E = .returned v ∧ r.ok w w' v ∧ Below w.heap.size w w') := by
  unfold gQIdx at hg
  split at hg
  · simp only [Option.some.injEq, Prod.mk.injEq] at hg
    obtain ⟨rfl, rfl⟩ := hg
    obtain ⟨hc, hn, hb⟩ := hp
    match vs, hv with
    | [x, y], ⟨⟨oa, cap, h1, h2⟩, h3, _⟩ =>
      rw [h1, h3, qIdx, hidZ_eq]
      rw [hc] at h2
      exact qidx_ok oa _ cap _ _ _ _ hn hb w h2
  · simp only [Option.some.injEq, Prod.mk.injEq] at hg
    obtain ⟨rfl, rfl⟩ := hg
    rw [rvs2 hv, qIdx, hidZ_eq]
    exact qidx_ok none 0 0 _ _ _ [] rfl (by omega) w (.inl rfl)
  · cases hg
noncomputable def K9a : Con Try.prog := K8.add 67 gQIdx gQIdx_ok
theorem run63 (oa : Option Addr) (n cap : Nat) (a b c : Int) (cs : List Value) : (((xgo Try.prog X (bodyOf Try.f63) 9 K9a [] 60 [.lx cs] ((.nil)) [.at []] ⟨argsTm 0 [.slice oa n cap, .agg (Array.mk [.int .i64 a, .int .i64 b, .int .i64 c])], []⟩ [] []).bind (ends Try.prog Try.f63.results.toList)).bind plainE) =
  some [EndP.mk [] [fun M => cs = [] ∨ MCells (fun a => M a) oa cs,
    fun _ => cs = qsC (unQs cs) ∧ List.length (unQs cs) = n ∧ n ≤ (4611686018427387903 : Nat)] (Res.v (Value.bool (decide ((0 : Int) ≤ qIdx cs a b c))))]
  := by kernel_rfl

theorem run63n (a b c : Int) : (((xgo Try.prog X (bodyOf Try.f63) 9 K9a [] 60 [] ((.nil)) [.at []] ⟨argsTm 0 [.slice none 0 0, .agg (Array.mk [.int .i64 a, .int .i64 b, .int .i64 c])], []⟩ [] []).bind (ends Try.prog Try.f63.results.toList)).bind plainE) =
  some [EndP.mk [] [fun _ => True] (Res.v (Value.bool (decide ((0 : Int) ≤ qIdx [] a b c))))]
  := by kernel_rfl


noncomputable def gQHas : List RV → Option (Res × Prop)
  | [.r n cs, .v (.agg ⟨[.int .i64 a, .int .i64 b, .int .i64 c]⟩)] => some (.v (.bool (qHas cs a b c)), cs = qsC (unQs cs) ∧ (unQs cs).length = n ∧ n ≤ 4611686018427387903)
  | [.v (.slice none 0 0), .v (.agg ⟨[.int .i64 a, .int .i64 b, .int .i64 c]⟩)] => some (.v (.bool (qHas [] a b c)), True)
  | _ => none
theorem qhas_idx (cs : List Value) (a b c : Int) : decide ((0 : Int) ≤ qIdx cs a b c) = qHas cs a b c := by
  rw [qIdx, hidZ_eq, qHas, hidQ_eq, idxF_any, any_sameQ]
theorem gQHas_ok (rvs : List RV) (r : Res) (p : Prop) (vs : List Value) (w : World) (hg : gQHas rvs = some (r, p)) (hp : p) (hv : RVs (wmem w) rvs vs) : Calls Try.prog 63 vs.toArray w (fun E w' => ∃ v, E = .returned v ∧ r.ok w w' v ∧ Below w.heap.size w w') := by
  unfold gQHas at hg
  split at hg
  · rename_i n cs a b c
    simp only [Option.some.injEq, Prod.mk.injEq] at hg
    obtain ⟨rfl, rfl⟩ := hg
    obtain ⟨hc, hn, hb⟩ := hp
    match vs, hv with
    | [x, y], ⟨⟨oa, cap, h1, h2⟩, h3, _⟩ =>
      rw [h1, h3]
      refine con_end (calls_plain hm Try.func63 (by kernel_rfl) rfl rfl 60 _ _ (run63 oa n cap a b c cs) ⟨fun _ => ⟨?_, ?_⟩, trivial⟩)
      · simp only [hold_cons, hold_nil, and_true]
        exact ⟨fun _ hM => h2.imp id fun h => h.mono hM, fun _ _ => ⟨hc, hn, hb⟩⟩
      · rw [qhas_idx]
  · rename_i a b c
    simp only [Option.some.injEq, Prod.mk.injEq] at hg
    obtain ⟨rfl, rfl⟩ := hg
    rw [rvs2 hv]
    refine con_end (calls_plain hm Try.func63 (by kernel_rfl) rfl rfl 60 _ _ (run63n a b c) ⟨fun _ => ⟨?_, ?_⟩, trivial⟩)
    · simp only [hold_cons, hold_nil, and_true]
      exact fun _ _ => trivial
    · rw [qhas_idx]
  · cases hg
noncomputable def K9 : Con Try.prog := K9a.add 63 gQHas gQHas_ok
end Go.Proofs.Ytpghmnpbfaichaa
